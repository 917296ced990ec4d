/-
  Walk: the law's examples hold.
-/
import Derived.Test.YtocoinkhbjlbhaaS6
namespace Go.Proofs.Ytocoinkhbjlbhaa
open Go Go.RowKit

/-- page.Set, with its answer computed. -/
theorem set_val (M : Mut) (vb vn : Value) (body : List Line) (notes : List (List Line)) (h e : Int) (ps : List Pg) (w : World) (hm : MB M w) (hb : SlOf eLine M w vb body) (hn : SlOf (eSl eLine) M w vn notes) (hI : I64 h)
    (hsz : body.length ≤ 1000000 ∧ sumR notes body ≤ 1000000) (he : chkM body notes h = e) (hp : (if e = 0 then setAll h body notes else []) = ps) :
    CallsV Try.prog 18 [vb, vn, .int .i64 h] w (fun u w' => Below w.heap.size w w' ∧ ∃ vp, u = .tuple #[vp, .int .i64 e] ∧ SlOf ePg M w' vp ps) :=
  (set_c M vb vn body notes h w hm hb hn hI fun _ => hsz).mono fun u w' ⟨⟨vp, h1, h2⟩, h3⟩ => by
    rw [he] at h1 h2
    rw [hp] at h2
    exact ⟨h3, vp, h1, h2⟩

def oneM : List Line := [⟨10, 11, [], []⟩, ⟨11, 12, [], [0]⟩, ⟨12, 13, [], []⟩, ⟨13, 14, [], []⟩, ⟨14, 15, [], []⟩]
def twoM : List Line := [⟨10, 11, [], []⟩, ⟨11, 12, [], [0, 1]⟩, ⟨12, 13, [], []⟩, ⟨13, 14, [], []⟩, ⟨14, 15, [], []⟩]
def pgsOne : List Pg := [⟨0, 0, 0, 0, [⟨10, 11, [], []⟩, ⟨11, 12, [], [0]⟩], [⟨1, 2, [], []⟩]⟩, ⟨0, 0, 0, 0, [⟨12, 13, [], []⟩], [⟨2, 3, [], []⟩, ⟨3, 4, [], []⟩]⟩, ⟨0, 0, 0, 0, [⟨13, 14, [], []⟩, ⟨14, 15, [], []⟩], []⟩]
def pgsTwo : List Pg := [⟨0, 0, 0, 0, [⟨10, 11, [], []⟩, ⟨11, 12, [], [0, 1]⟩], [⟨1, 2, [], []⟩]⟩, ⟨0, 0, 0, 0, [], [⟨2, 3, [], []⟩, ⟨3, 4, [], []⟩, ⟨4, 5, [], []⟩]⟩, ⟨0, 0, 0, 0, [⟨12, 13, [], []⟩], [⟨5, 6, [], []⟩, ⟨6, 7, [], []⟩]⟩, ⟨0, 0, 0, 0, [⟨13, 14, [], []⟩, ⟨14, 15, [], []⟩], []⟩]

theorem chkOne : chkM oneM [linesM 1 3] 4 = 0 := rfl
theorem setOne : setAll 4 oneM [linesM 1 3] = pgsOne := rfl
theorem chkTwo : chkM twoM [linesM 1 1, linesM 2 5] 4 = 0 := rfl
theorem setTwo : setAll 4 twoM [linesM 1 1, linesM 2 5] = pgsTwo := rfl

theorem lives_c (M : Mut) (w : World) (hm : MB M w) : CallsV Try.prog 22 [] w (fun u w' => u = .bool true ∧ Below w.heap.size w w') := by
  have hr := Rn.refl hm
  refine callsV_of_run Try.func22 rfl Try.ntmps22 (Nat.le_of_ble_eq_true rfl) ?_
  (repeat (first
      | refine run_seq ?_
      | refine run_region_l ?_
      | refine rl_nil ?_
      | refine rl_step (by decide) (op_move rfl ?_)
      | refine rl_step (by decide) (op_assign rfl ?_)
      | refine run_block ?_
      | refine run_inBlock ?_
      | refine run_exit rfl ?_
      | refine run_skip ?_
      | refine run_label ?_
      | refine run_true rfl ?_
      | refine run_false rfl ?_
      | refine rl_yes rfl rfl ?_
      | refine rl_no rfl rfl rfl (by decide) ?_
      | refine rl_step (by decide) (op_pick_t rfl rfl ?_)
      | refine rl_step (by decide) (op_pick_f rfl rfl ?_)
      | refine rl_step (by decide) (op_lss rfl rfl ?_)
      | refine rl_step (by decide) (op_leq rfl rfl ?_)
      | refine rl_step (by decide) (op_gtr rfl rfl ?_)
      | refine rl_step (by decide) (op_geq rfl rfl ?_)
      | refine rl_step (by decide) (op_eql rfl rfl ?_)
      | refine rl_step (by decide) (op_neq rfl rfl ?_)
      | refine rl_step (by decide) (op_not rfl ?_)
      | refine rl_step (by decide) (op_min rfl rfl ?_)
      | refine rl_step (by decide) (op_max rfl rfl ?_)
      | refine rl_step (by decide) (op_extract rfl rfl ?_)
      | refine rl_step (by decide) (op_add rfl rfl (by omega) ?_)
      | refine rl_step (by decide) (op_sub rfl rfl (by omega) ?_)
      | refine rl_step (by decide) (op_neg rfl (by omega) ?_)))
  refine rl_step (by decide) (op_call ent51 rfl (line_c M _ 10 (.slice none 0 0) [] hr.mb (SlOf.nil _ _ _) (by omega)) ?_)
  rintro va0 wa0 ⟨hbel, ha0⟩
  have hs := UpM.of_below (M := M) hbel
  replace hr := hr.up hs
  clear hs hbel
  refine rl_step (by decide) (op_buildSlice (E := eI) (n := 1) (parts := [(0, .const (.int .i64 0))]) (vs := [.int .i64 0]) (l := [0]) uI teI hr rfl rfl ⟨eI_V.2 ⟨rfl, by unfold I64; omega⟩, trivial⟩ rfl ⟨Nat.le_of_ble_eq_true rfl, Nat.le_of_ble_eq_true rfl⟩ ?_)
  intro van wan han _ hbel
  have hs := UpM.of_below (M := M) hbel
  replace ha0 := ha0.mono hs.x
  replace hr := hr.up hs
  clear hs hbel
  refine rl_step (by decide) (op_call ent51 rfl (line_c M _ 11 van [0] hr.mb han (by omega)) ?_)
  rintro va1 wa1 ⟨hbel, ha1⟩
  have hs := UpM.of_below (M := M) hbel
  replace ha0 := ha0.mono hs.x
  replace han := han.mono hs.x
  replace hr := hr.up hs
  clear hs hbel
  refine rl_step (by decide) (op_call ent51 rfl (line_c M _ 12 (.slice none 0 0) [] hr.mb (SlOf.nil _ _ _) (by omega)) ?_)
  rintro va2 wa2 ⟨hbel, ha2⟩
  have hs := UpM.of_below (M := M) hbel
  replace ha0 := ha0.mono hs.x
  replace han := han.mono hs.x
  replace ha1 := ha1.mono hs.x
  replace hr := hr.up hs
  clear hs hbel
  refine rl_step (by decide) (op_call ent51 rfl (line_c M _ 13 (.slice none 0 0) [] hr.mb (SlOf.nil _ _ _) (by omega)) ?_)
  rintro va3 wa3 ⟨hbel, ha3⟩
  have hs := UpM.of_below (M := M) hbel
  replace ha0 := ha0.mono hs.x
  replace han := han.mono hs.x
  replace ha1 := ha1.mono hs.x
  replace ha2 := ha2.mono hs.x
  replace hr := hr.up hs
  clear hs hbel
  refine rl_step (by decide) (op_call ent51 rfl (line_c M _ 14 (.slice none 0 0) [] hr.mb (SlOf.nil _ _ _) (by omega)) ?_)
  rintro va4 wa4 ⟨hbel, ha4⟩
  have hs := UpM.of_below (M := M) hbel
  replace ha0 := ha0.mono hs.x
  replace han := han.mono hs.x
  replace ha1 := ha1.mono hs.x
  replace ha2 := ha2.mono hs.x
  replace ha3 := ha3.mono hs.x
  replace hr := hr.up hs
  clear hs hbel
  refine rl_step (by decide) (op_buildSlice (E := eLine) (n := 5) (parts := [(0, .tmp 15), (1, .tmp 17), (2, .tmp 18), (3, .tmp 19), (4, .tmp 20)]) (vs := [va0, va1, va2, va3, va4]) (l := oneM) uL teL hr rfl rfl ⟨ha0, ha1, ha2, ha3, ha4, trivial⟩ rfl ⟨Nat.le_of_ble_eq_true rfl, Nat.le_of_ble_eq_true rfl⟩ ?_)
  intro va wa ha _ hbel
  have hs := UpM.of_below (M := M) hbel
  replace ha0 := ha0.mono hs.x
  replace han := han.mono hs.x
  replace ha1 := ha1.mono hs.x
  replace ha2 := ha2.mono hs.x
  replace ha3 := ha3.mono hs.x
  replace ha4 := ha4.mono hs.x
  replace hr := hr.up hs
  clear hs hbel
  clear ha0 ha1 ha2 ha3 ha4 han
  (repeat (first
      | refine run_seq ?_
      | refine run_region_l ?_
      | refine rl_nil ?_
      | refine rl_step (by decide) (op_move rfl ?_)
      | refine rl_step (by decide) (op_assign rfl ?_)
      | refine run_block ?_
      | refine run_inBlock ?_
      | refine run_exit rfl ?_
      | refine run_skip ?_
      | refine run_label ?_
      | refine run_true rfl ?_
      | refine run_false rfl ?_
      | refine rl_yes rfl rfl ?_
      | refine rl_no rfl rfl rfl (by decide) ?_
      | refine rl_step (by decide) (op_pick_t rfl rfl ?_)
      | refine rl_step (by decide) (op_pick_f rfl rfl ?_)
      | refine rl_step (by decide) (op_lss rfl rfl ?_)
      | refine rl_step (by decide) (op_leq rfl rfl ?_)
      | refine rl_step (by decide) (op_gtr rfl rfl ?_)
      | refine rl_step (by decide) (op_geq rfl rfl ?_)
      | refine rl_step (by decide) (op_eql rfl rfl ?_)
      | refine rl_step (by decide) (op_neq rfl rfl ?_)
      | refine rl_step (by decide) (op_not rfl ?_)
      | refine rl_step (by decide) (op_min rfl rfl ?_)
      | refine rl_step (by decide) (op_max rfl rfl ?_)
      | refine rl_step (by decide) (op_extract rfl rfl ?_)
      | refine rl_step (by decide) (op_add rfl rfl (by omega) ?_)
      | refine rl_step (by decide) (op_sub rfl rfl (by omega) ?_)
      | refine rl_step (by decide) (op_neg rfl (by omega) ?_)))
  refine rl_step (by decide) (op_call ent51 rfl (line_c M _ 10 (.slice none 0 0) [] hr.mb (SlOf.nil _ _ _) (by omega)) ?_)
  rintro vb0 wb0 ⟨hbel, hb0⟩
  have hs := UpM.of_below (M := M) hbel
  replace ha := ha.mono hs.x
  replace hr := hr.up hs
  clear hs hbel
  refine rl_step (by decide) (op_buildSlice (E := eI) (n := 2) (parts := [(0, .const (.int .i64 0)), (1, .const (.int .i64 1))]) (vs := [.int .i64 0, .int .i64 1]) (l := [0, 1]) uI teI hr rfl rfl ⟨eI_V.2 ⟨rfl, by unfold I64; omega⟩, eI_V.2 ⟨rfl, by unfold I64; omega⟩, trivial⟩ rfl ⟨Nat.le_of_ble_eq_true rfl, Nat.le_of_ble_eq_true rfl⟩ ?_)
  intro vbn wbn hbn _ hbel
  have hs := UpM.of_below (M := M) hbel
  replace ha := ha.mono hs.x
  replace hb0 := hb0.mono hs.x
  replace hr := hr.up hs
  clear hs hbel
  refine rl_step (by decide) (op_call ent51 rfl (line_c M _ 11 vbn [0, 1] hr.mb hbn (by omega)) ?_)
  rintro vb1 wb1 ⟨hbel, hb1⟩
  have hs := UpM.of_below (M := M) hbel
  replace ha := ha.mono hs.x
  replace hb0 := hb0.mono hs.x
  replace hbn := hbn.mono hs.x
  replace hr := hr.up hs
  clear hs hbel
  refine rl_step (by decide) (op_call ent51 rfl (line_c M _ 12 (.slice none 0 0) [] hr.mb (SlOf.nil _ _ _) (by omega)) ?_)
  rintro vb2 wb2 ⟨hbel, hb2⟩
  have hs := UpM.of_below (M := M) hbel
  replace ha := ha.mono hs.x
  replace hb0 := hb0.mono hs.x
  replace hbn := hbn.mono hs.x
  replace hb1 := hb1.mono hs.x
  replace hr := hr.up hs
  clear hs hbel
  refine rl_step (by decide) (op_call ent51 rfl (line_c M _ 13 (.slice none 0 0) [] hr.mb (SlOf.nil _ _ _) (by omega)) ?_)
  rintro vb3 wb3 ⟨hbel, hb3⟩
  have hs := UpM.of_below (M := M) hbel
  replace ha := ha.mono hs.x
  replace hb0 := hb0.mono hs.x
  replace hbn := hbn.mono hs.x
  replace hb1 := hb1.mono hs.x
  replace hb2 := hb2.mono hs.x
  replace hr := hr.up hs
  clear hs hbel
  refine rl_step (by decide) (op_call ent51 rfl (line_c M _ 14 (.slice none 0 0) [] hr.mb (SlOf.nil _ _ _) (by omega)) ?_)
  rintro vb4 wb4 ⟨hbel, hb4⟩
  have hs := UpM.of_below (M := M) hbel
  replace ha := ha.mono hs.x
  replace hb0 := hb0.mono hs.x
  replace hbn := hbn.mono hs.x
  replace hb1 := hb1.mono hs.x
  replace hb2 := hb2.mono hs.x
  replace hb3 := hb3.mono hs.x
  replace hr := hr.up hs
  clear hs hbel
  refine rl_step (by decide) (op_buildSlice (E := eLine) (n := 5) (parts := [(0, .tmp 22), (1, .tmp 24), (2, .tmp 25), (3, .tmp 26), (4, .tmp 27)]) (vs := [vb0, vb1, vb2, vb3, vb4]) (l := twoM) uL teL hr rfl rfl ⟨hb0, hb1, hb2, hb3, hb4, trivial⟩ rfl ⟨Nat.le_of_ble_eq_true rfl, Nat.le_of_ble_eq_true rfl⟩ ?_)
  intro vb wb hb _ hbel
  have hs := UpM.of_below (M := M) hbel
  replace ha := ha.mono hs.x
  replace hb0 := hb0.mono hs.x
  replace hbn := hbn.mono hs.x
  replace hb1 := hb1.mono hs.x
  replace hb2 := hb2.mono hs.x
  replace hb3 := hb3.mono hs.x
  replace hb4 := hb4.mono hs.x
  replace hr := hr.up hs
  clear hs hbel
  clear hb0 hb1 hb2 hb3 hb4 hbn
  (repeat (first
      | refine run_seq ?_
      | refine run_region_l ?_
      | refine rl_nil ?_
      | refine rl_step (by decide) (op_move rfl ?_)
      | refine rl_step (by decide) (op_assign rfl ?_)
      | refine run_block ?_
      | refine run_inBlock ?_
      | refine run_exit rfl ?_
      | refine run_skip ?_
      | refine run_label ?_
      | refine run_true rfl ?_
      | refine run_false rfl ?_
      | refine rl_yes rfl rfl ?_
      | refine rl_no rfl rfl rfl (by decide) ?_
      | refine rl_step (by decide) (op_pick_t rfl rfl ?_)
      | refine rl_step (by decide) (op_pick_f rfl rfl ?_)
      | refine rl_step (by decide) (op_lss rfl rfl ?_)
      | refine rl_step (by decide) (op_leq rfl rfl ?_)
      | refine rl_step (by decide) (op_gtr rfl rfl ?_)
      | refine rl_step (by decide) (op_geq rfl rfl ?_)
      | refine rl_step (by decide) (op_eql rfl rfl ?_)
      | refine rl_step (by decide) (op_neq rfl rfl ?_)
      | refine rl_step (by decide) (op_not rfl ?_)
      | refine rl_step (by decide) (op_min rfl rfl ?_)
      | refine rl_step (by decide) (op_max rfl rfl ?_)
      | refine rl_step (by decide) (op_extract rfl rfl ?_)
      | refine rl_step (by decide) (op_add rfl rfl (by omega) ?_)
      | refine rl_step (by decide) (op_sub rfl rfl (by omega) ?_)
      | refine rl_step (by decide) (op_neg rfl (by omega) ?_)))
  refine rl_step (by decide) (op_call ent52 rfl (lines_c M _ 1 3 hr.mb (by omega) (by omega)) ?_)
  rintro vl1 wl1 ⟨hbel, hl1⟩
  have hs := UpM.of_below (M := M) hbel
  replace ha := ha.mono hs.x
  replace hb := hb.mono hs.x
  replace hr := hr.up hs
  clear hs hbel
  refine rl_step (by decide) (op_buildSlice (E := (eSl eLine)) (n := 1) (parts := [(0, .tmp 31)]) (vs := [vl1]) (l := [linesM 1 3]) uLL teSL hr rfl rfl ⟨eSl_V.2 hl1, trivial⟩ rfl ⟨Nat.le_of_ble_eq_true rfl, Nat.le_of_ble_eq_true rfl⟩ ?_)
  intro vk1 wk1 hk1 _ hbel
  have hs := UpM.of_below (M := M) hbel
  replace ha := ha.mono hs.x
  replace hb := hb.mono hs.x
  replace hl1 := hl1.mono hs.x
  replace hr := hr.up hs
  clear hs hbel
  (repeat (first
      | refine run_seq ?_
      | refine run_region_l ?_
      | refine rl_nil ?_
      | refine rl_step (by decide) (op_move rfl ?_)
      | refine rl_step (by decide) (op_assign rfl ?_)
      | refine run_block ?_
      | refine run_inBlock ?_
      | refine run_exit rfl ?_
      | refine run_skip ?_
      | refine run_label ?_
      | refine run_true rfl ?_
      | refine run_false rfl ?_
      | refine rl_yes rfl rfl ?_
      | refine rl_no rfl rfl rfl (by decide) ?_
      | refine rl_step (by decide) (op_pick_t rfl rfl ?_)
      | refine rl_step (by decide) (op_pick_f rfl rfl ?_)
      | refine rl_step (by decide) (op_lss rfl rfl ?_)
      | refine rl_step (by decide) (op_leq rfl rfl ?_)
      | refine rl_step (by decide) (op_gtr rfl rfl ?_)
      | refine rl_step (by decide) (op_geq rfl rfl ?_)
      | refine rl_step (by decide) (op_eql rfl rfl ?_)
      | refine rl_step (by decide) (op_neq rfl rfl ?_)
      | refine rl_step (by decide) (op_not rfl ?_)
      | refine rl_step (by decide) (op_min rfl rfl ?_)
      | refine rl_step (by decide) (op_max rfl rfl ?_)
      | refine rl_step (by decide) (op_extract rfl rfl ?_)
      | refine rl_step (by decide) (op_add rfl rfl (by omega) ?_)
      | refine rl_step (by decide) (op_sub rfl rfl (by omega) ?_)
      | refine rl_step (by decide) (op_neg rfl (by omega) ?_)))
  refine rl_step (by decide) (op_call ent18 rfl (set_val M va vk1 oneM [linesM 1 3] 4 0 pgsOne _ hr.mb ha hk1 (by unfold I64; omega) ⟨Nat.le_of_ble_eq_true rfl, Nat.le_of_ble_eq_true rfl⟩ chkOne setOne) ?_)
  rintro _ wp1 ⟨hbel, vp1, rfl, hp1⟩
  have hs := UpM.of_below (M := M) hbel
  replace ha := ha.mono hs.x
  replace hb := hb.mono hs.x
  replace hl1 := hl1.mono hs.x
  replace hk1 := hk1.mono hs.x
  replace hr := hr.up hs
  clear hs hbel
  (repeat (first
      | refine run_seq ?_
      | refine run_region_l ?_
      | refine rl_nil ?_
      | refine rl_step (by decide) (op_move rfl ?_)
      | refine rl_step (by decide) (op_assign rfl ?_)
      | refine run_block ?_
      | refine run_inBlock ?_
      | refine run_exit rfl ?_
      | refine run_skip ?_
      | refine run_label ?_
      | refine run_true rfl ?_
      | refine run_false rfl ?_
      | refine rl_yes rfl rfl ?_
      | refine rl_no rfl rfl rfl (by decide) ?_
      | refine rl_step (by decide) (op_pick_t rfl rfl ?_)
      | refine rl_step (by decide) (op_pick_f rfl rfl ?_)
      | refine rl_step (by decide) (op_lss rfl rfl ?_)
      | refine rl_step (by decide) (op_leq rfl rfl ?_)
      | refine rl_step (by decide) (op_gtr rfl rfl ?_)
      | refine rl_step (by decide) (op_geq rfl rfl ?_)
      | refine rl_step (by decide) (op_eql rfl rfl ?_)
      | refine rl_step (by decide) (op_neq rfl rfl ?_)
      | refine rl_step (by decide) (op_not rfl ?_)
      | refine rl_step (by decide) (op_min rfl rfl ?_)
      | refine rl_step (by decide) (op_max rfl rfl ?_)
      | refine rl_step (by decide) (op_extract rfl rfl ?_)
      | refine rl_step (by decide) (op_add rfl rfl (by omega) ?_)
      | refine rl_step (by decide) (op_sub rfl rfl (by omega) ?_)
      | refine rl_step (by decide) (op_neg rfl (by omega) ?_)))
  refine rl_step (by decide) (op_call ent52 rfl (lines_c M _ 1 1 hr.mb (by omega) (by omega)) ?_)
  rintro vl2 wl2 ⟨hbel, hl2⟩
  have hs := UpM.of_below (M := M) hbel
  replace ha := ha.mono hs.x
  replace hb := hb.mono hs.x
  replace hl1 := hl1.mono hs.x
  replace hk1 := hk1.mono hs.x
  replace hp1 := hp1.mono hs.x
  replace hr := hr.up hs
  clear hs hbel
  refine rl_step (by decide) (op_call ent52 rfl (lines_c M _ 2 5 hr.mb (by omega) (by omega)) ?_)
  rintro vl3 wl3 ⟨hbel, hl3⟩
  have hs := UpM.of_below (M := M) hbel
  replace ha := ha.mono hs.x
  replace hb := hb.mono hs.x
  replace hl1 := hl1.mono hs.x
  replace hk1 := hk1.mono hs.x
  replace hp1 := hp1.mono hs.x
  replace hl2 := hl2.mono hs.x
  replace hr := hr.up hs
  clear hs hbel
  refine rl_step (by decide) (op_buildSlice (E := (eSl eLine)) (n := 2) (parts := [(0, .tmp 38), (1, .tmp 39)]) (vs := [vl2, vl3]) (l := [linesM 1 1, linesM 2 5]) uLL teSL hr rfl rfl ⟨eSl_V.2 hl2, eSl_V.2 hl3, trivial⟩ rfl ⟨Nat.le_of_ble_eq_true rfl, Nat.le_of_ble_eq_true rfl⟩ ?_)
  intro vk2 wk2 hk2 _ hbel
  have hs := UpM.of_below (M := M) hbel
  replace ha := ha.mono hs.x
  replace hb := hb.mono hs.x
  replace hl1 := hl1.mono hs.x
  replace hk1 := hk1.mono hs.x
  replace hp1 := hp1.mono hs.x
  replace hl2 := hl2.mono hs.x
  replace hl3 := hl3.mono hs.x
  replace hr := hr.up hs
  clear hs hbel
  (repeat (first
      | refine run_seq ?_
      | refine run_region_l ?_
      | refine rl_nil ?_
      | refine rl_step (by decide) (op_move rfl ?_)
      | refine rl_step (by decide) (op_assign rfl ?_)
      | refine run_block ?_
      | refine run_inBlock ?_
      | refine run_exit rfl ?_
      | refine run_skip ?_
      | refine run_label ?_
      | refine run_true rfl ?_
      | refine run_false rfl ?_
      | refine rl_yes rfl rfl ?_
      | refine rl_no rfl rfl rfl (by decide) ?_
      | refine rl_step (by decide) (op_pick_t rfl rfl ?_)
      | refine rl_step (by decide) (op_pick_f rfl rfl ?_)
      | refine rl_step (by decide) (op_lss rfl rfl ?_)
      | refine rl_step (by decide) (op_leq rfl rfl ?_)
      | refine rl_step (by decide) (op_gtr rfl rfl ?_)
      | refine rl_step (by decide) (op_geq rfl rfl ?_)
      | refine rl_step (by decide) (op_eql rfl rfl ?_)
      | refine rl_step (by decide) (op_neq rfl rfl ?_)
      | refine rl_step (by decide) (op_not rfl ?_)
      | refine rl_step (by decide) (op_min rfl rfl ?_)
      | refine rl_step (by decide) (op_max rfl rfl ?_)
      | refine rl_step (by decide) (op_extract rfl rfl ?_)
      | refine rl_step (by decide) (op_add rfl rfl (by omega) ?_)
      | refine rl_step (by decide) (op_sub rfl rfl (by omega) ?_)
      | refine rl_step (by decide) (op_neg rfl (by omega) ?_)))
  refine rl_step (by decide) (op_call ent18 rfl (set_val M vb vk2 twoM [linesM 1 1, linesM 2 5] 4 0 pgsTwo _ hr.mb hb hk2 (by unfold I64; omega) ⟨Nat.le_of_ble_eq_true rfl, Nat.le_of_ble_eq_true rfl⟩ chkTwo setTwo) ?_)
  rintro _ wp2 ⟨hbel, vp2, rfl, hp2⟩
  have hs := UpM.of_below (M := M) hbel
  replace ha := ha.mono hs.x
  replace hb := hb.mono hs.x
  replace hl1 := hl1.mono hs.x
  replace hk1 := hk1.mono hs.x
  replace hp1 := hp1.mono hs.x
  replace hl2 := hl2.mono hs.x
  replace hl3 := hl3.mono hs.x
  replace hk2 := hk2.mono hs.x
  replace hr := hr.up hs
  clear hs hbel
  (repeat (first
      | refine run_seq ?_
      | refine run_region_l ?_
      | refine rl_nil ?_
      | refine rl_step (by decide) (op_move rfl ?_)
      | refine rl_step (by decide) (op_assign rfl ?_)
      | refine run_block ?_
      | refine run_inBlock ?_
      | refine run_exit rfl ?_
      | refine run_skip ?_
      | refine run_label ?_
      | refine run_true rfl ?_
      | refine run_false rfl ?_
      | refine rl_yes rfl rfl ?_
      | refine rl_no rfl rfl rfl (by decide) ?_
      | refine rl_step (by decide) (op_pick_t rfl rfl ?_)
      | refine rl_step (by decide) (op_pick_f rfl rfl ?_)
      | refine rl_step (by decide) (op_lss rfl rfl ?_)
      | refine rl_step (by decide) (op_leq rfl rfl ?_)
      | refine rl_step (by decide) (op_gtr rfl rfl ?_)
      | refine rl_step (by decide) (op_geq rfl rfl ?_)
      | refine rl_step (by decide) (op_eql rfl rfl ?_)
      | refine rl_step (by decide) (op_neq rfl rfl ?_)
      | refine rl_step (by decide) (op_not rfl ?_)
      | refine rl_step (by decide) (op_min rfl rfl ?_)
      | refine rl_step (by decide) (op_max rfl rfl ?_)
      | refine rl_step (by decide) (op_extract rfl rfl ?_)
      | refine rl_step (by decide) (op_add rfl rfl (by omega) ?_)
      | refine rl_step (by decide) (op_sub rfl rfl (by omega) ?_)
      | refine rl_step (by decide) (op_neg rfl (by omega) ?_)))
  clear hl1 hl2 hl3 hk1 hk2 hb
  (repeat (first
      | refine run_seq ?_
      | refine run_region_l ?_
      | refine rl_nil ?_
      | refine rl_step (by decide) (op_move rfl ?_)
      | refine rl_step (by decide) (op_assign rfl ?_)
      | refine run_block ?_
      | refine run_inBlock ?_
      | refine run_exit rfl ?_
      | refine run_skip ?_
      | refine run_label ?_
      | refine run_true rfl ?_
      | refine run_false rfl ?_
      | refine rl_yes rfl rfl ?_
      | refine rl_no rfl rfl rfl (by decide) ?_
      | refine rl_step (by decide) (op_pick_t rfl rfl ?_)
      | refine rl_step (by decide) (op_pick_f rfl rfl ?_)
      | refine rl_step (by decide) (op_lss rfl rfl ?_)
      | refine rl_step (by decide) (op_leq rfl rfl ?_)
      | refine rl_step (by decide) (op_gtr rfl rfl ?_)
      | refine rl_step (by decide) (op_geq rfl rfl ?_)
      | refine rl_step (by decide) (op_eql rfl rfl ?_)
      | refine rl_step (by decide) (op_neq rfl rfl ?_)
      | refine rl_step (by decide) (op_not rfl ?_)
      | refine rl_step (by decide) (op_min rfl rfl ?_)
      | refine rl_step (by decide) (op_max rfl rfl ?_)
      | refine rl_step (by decide) (op_extract rfl rfl ?_)
      | refine rl_step (by decide) (op_add rfl rfl (by omega) ?_)
      | refine rl_step (by decide) (op_sub rfl rfl (by omega) ?_)
      | refine rl_step (by decide) (op_neg rfl (by omega) ?_)))
  refine rl_step (by decide) (op_call ent18 rfl (set_val M va (.slice none 0 0) oneM [] 4 12 [] _ hr.mb ha (SlOf.nil _ _ _) (by unfold I64; omega) ⟨Nat.le_of_ble_eq_true rfl, Nat.le_of_ble_eq_true rfl⟩ rfl rfl) ?_)
  rintro _ wp3 ⟨hbel, vp3, rfl, hp3⟩
  have hs := UpM.of_below (M := M) hbel
  replace ha := ha.mono hs.x
  replace hp1 := hp1.mono hs.x
  replace hp2 := hp2.mono hs.x
  replace hr := hr.up hs
  clear hs hbel
  (repeat (first
      | refine run_seq ?_
      | refine run_region_l ?_
      | refine rl_nil ?_
      | refine rl_step (by decide) (op_move rfl ?_)
      | refine rl_step (by decide) (op_assign rfl ?_)
      | refine run_block ?_
      | refine run_inBlock ?_
      | refine run_exit rfl ?_
      | refine run_skip ?_
      | refine run_label ?_
      | refine run_true rfl ?_
      | refine run_false rfl ?_
      | refine rl_yes rfl rfl ?_
      | refine rl_no rfl rfl rfl (by decide) ?_
      | refine rl_step (by decide) (op_pick_t rfl rfl ?_)
      | refine rl_step (by decide) (op_pick_f rfl rfl ?_)
      | refine rl_step (by decide) (op_lss rfl rfl ?_)
      | refine rl_step (by decide) (op_leq rfl rfl ?_)
      | refine rl_step (by decide) (op_gtr rfl rfl ?_)
      | refine rl_step (by decide) (op_geq rfl rfl ?_)
      | refine rl_step (by decide) (op_eql rfl rfl ?_)
      | refine rl_step (by decide) (op_neq rfl rfl ?_)
      | refine rl_step (by decide) (op_not rfl ?_)
      | refine rl_step (by decide) (op_min rfl rfl ?_)
      | refine rl_step (by decide) (op_max rfl rfl ?_)
      | refine rl_step (by decide) (op_extract rfl rfl ?_)
      | refine rl_step (by decide) (op_add rfl rfl (by omega) ?_)
      | refine rl_step (by decide) (op_sub rfl rfl (by omega) ?_)
      | refine rl_step (by decide) (op_neg rfl (by omega) ?_)))
  refine rl_step (by decide) (op_call ent52 rfl (lines_c M _ 1 2 hr.mb (by omega) (by omega)) ?_)
  rintro vl4 wl4 ⟨hbel, hl4⟩
  have hs := UpM.of_below (M := M) hbel
  replace ha := ha.mono hs.x
  replace hp1 := hp1.mono hs.x
  replace hp2 := hp2.mono hs.x
  replace hp3 := hp3.mono hs.x
  replace hr := hr.up hs
  clear hs hbel
  refine rl_step (by decide) (op_call ent52 rfl (lines_c M _ 1 1 hr.mb (by omega) (by omega)) ?_)
  rintro vl5 wl5 ⟨hbel, hl5⟩
  have hs := UpM.of_below (M := M) hbel
  replace ha := ha.mono hs.x
  replace hp1 := hp1.mono hs.x
  replace hp2 := hp2.mono hs.x
  replace hp3 := hp3.mono hs.x
  replace hl4 := hl4.mono hs.x
  replace hr := hr.up hs
  clear hs hbel
  refine rl_step (by decide) (op_buildSlice (E := (eSl eLine)) (n := 1) (parts := [(0, .tmp 51)]) (vs := [vl5]) (l := [linesM 1 1]) uLL teSL hr rfl rfl ⟨eSl_V.2 hl5, trivial⟩ rfl ⟨Nat.le_of_ble_eq_true rfl, Nat.le_of_ble_eq_true rfl⟩ ?_)
  intro vk4 wk4 hk4 _ hbel
  have hs := UpM.of_below (M := M) hbel
  replace ha := ha.mono hs.x
  replace hp1 := hp1.mono hs.x
  replace hp2 := hp2.mono hs.x
  replace hp3 := hp3.mono hs.x
  replace hl4 := hl4.mono hs.x
  replace hl5 := hl5.mono hs.x
  replace hr := hr.up hs
  clear hs hbel
  (repeat (first
      | refine run_seq ?_
      | refine run_region_l ?_
      | refine rl_nil ?_
      | refine rl_step (by decide) (op_move rfl ?_)
      | refine rl_step (by decide) (op_assign rfl ?_)
      | refine run_block ?_
      | refine run_inBlock ?_
      | refine run_exit rfl ?_
      | refine run_skip ?_
      | refine run_label ?_
      | refine run_true rfl ?_
      | refine run_false rfl ?_
      | refine rl_yes rfl rfl ?_
      | refine rl_no rfl rfl rfl (by decide) ?_
      | refine rl_step (by decide) (op_pick_t rfl rfl ?_)
      | refine rl_step (by decide) (op_pick_f rfl rfl ?_)
      | refine rl_step (by decide) (op_lss rfl rfl ?_)
      | refine rl_step (by decide) (op_leq rfl rfl ?_)
      | refine rl_step (by decide) (op_gtr rfl rfl ?_)
      | refine rl_step (by decide) (op_geq rfl rfl ?_)
      | refine rl_step (by decide) (op_eql rfl rfl ?_)
      | refine rl_step (by decide) (op_neq rfl rfl ?_)
      | refine rl_step (by decide) (op_not rfl ?_)
      | refine rl_step (by decide) (op_min rfl rfl ?_)
      | refine rl_step (by decide) (op_max rfl rfl ?_)
      | refine rl_step (by decide) (op_extract rfl rfl ?_)
      | refine rl_step (by decide) (op_add rfl rfl (by omega) ?_)
      | refine rl_step (by decide) (op_sub rfl rfl (by omega) ?_)
      | refine rl_step (by decide) (op_neg rfl (by omega) ?_)))
  refine rl_step (by decide) (op_call ent18 rfl (set_val M vl4 vk4 (linesM 1 2) [linesM 1 1] 4 3 [] _ hr.mb hl4 hk4 (by unfold I64; omega) ⟨Nat.le_of_ble_eq_true rfl, Nat.le_of_ble_eq_true rfl⟩ rfl rfl) ?_)
  rintro _ wp4 ⟨hbel, vp4, rfl, hp4⟩
  have hs := UpM.of_below (M := M) hbel
  replace ha := ha.mono hs.x
  replace hp1 := hp1.mono hs.x
  replace hp2 := hp2.mono hs.x
  replace hp3 := hp3.mono hs.x
  replace hl4 := hl4.mono hs.x
  replace hl5 := hl5.mono hs.x
  replace hk4 := hk4.mono hs.x
  replace hr := hr.up hs
  clear hs hbel
  (repeat (first
      | refine run_seq ?_
      | refine run_region_l ?_
      | refine rl_nil ?_
      | refine rl_step (by decide) (op_move rfl ?_)
      | refine rl_step (by decide) (op_assign rfl ?_)
      | refine run_block ?_
      | refine run_inBlock ?_
      | refine run_exit rfl ?_
      | refine run_skip ?_
      | refine run_label ?_
      | refine run_true rfl ?_
      | refine run_false rfl ?_
      | refine rl_yes rfl rfl ?_
      | refine rl_no rfl rfl rfl (by decide) ?_
      | refine rl_step (by decide) (op_pick_t rfl rfl ?_)
      | refine rl_step (by decide) (op_pick_f rfl rfl ?_)
      | refine rl_step (by decide) (op_lss rfl rfl ?_)
      | refine rl_step (by decide) (op_leq rfl rfl ?_)
      | refine rl_step (by decide) (op_gtr rfl rfl ?_)
      | refine rl_step (by decide) (op_geq rfl rfl ?_)
      | refine rl_step (by decide) (op_eql rfl rfl ?_)
      | refine rl_step (by decide) (op_neq rfl rfl ?_)
      | refine rl_step (by decide) (op_not rfl ?_)
      | refine rl_step (by decide) (op_min rfl rfl ?_)
      | refine rl_step (by decide) (op_max rfl rfl ?_)
      | refine rl_step (by decide) (op_extract rfl rfl ?_)
      | refine rl_step (by decide) (op_add rfl rfl (by omega) ?_)
      | refine rl_step (by decide) (op_sub rfl rfl (by omega) ?_)
      | refine rl_step (by decide) (op_neg rfl (by omega) ?_)))
  refine rl_step (by decide) (op_buildSlice (E := (eSl eLine)) (n := 1) (parts := [(0, .const (.slice none 0 0))]) (vs := [.slice none 0 0]) (l := [[]]) uLL teSL hr rfl rfl ⟨eSl_V.2 (SlOf.nil _ _ _), trivial⟩ rfl ⟨Nat.le_of_ble_eq_true rfl, Nat.le_of_ble_eq_true rfl⟩ ?_)
  intro vk5 wk5 hk5 _ hbel
  have hs := UpM.of_below (M := M) hbel
  replace ha := ha.mono hs.x
  replace hp1 := hp1.mono hs.x
  replace hp2 := hp2.mono hs.x
  replace hp3 := hp3.mono hs.x
  replace hl4 := hl4.mono hs.x
  replace hl5 := hl5.mono hs.x
  replace hk4 := hk4.mono hs.x
  replace hp4 := hp4.mono hs.x
  replace hr := hr.up hs
  clear hs hbel
  (repeat (first
      | refine run_seq ?_
      | refine run_region_l ?_
      | refine rl_nil ?_
      | refine rl_step (by decide) (op_move rfl ?_)
      | refine rl_step (by decide) (op_assign rfl ?_)
      | refine run_block ?_
      | refine run_inBlock ?_
      | refine run_exit rfl ?_
      | refine run_skip ?_
      | refine run_label ?_
      | refine run_true rfl ?_
      | refine run_false rfl ?_
      | refine rl_yes rfl rfl ?_
      | refine rl_no rfl rfl rfl (by decide) ?_
      | refine rl_step (by decide) (op_pick_t rfl rfl ?_)
      | refine rl_step (by decide) (op_pick_f rfl rfl ?_)
      | refine rl_step (by decide) (op_lss rfl rfl ?_)
      | refine rl_step (by decide) (op_leq rfl rfl ?_)
      | refine rl_step (by decide) (op_gtr rfl rfl ?_)
      | refine rl_step (by decide) (op_geq rfl rfl ?_)
      | refine rl_step (by decide) (op_eql rfl rfl ?_)
      | refine rl_step (by decide) (op_neq rfl rfl ?_)
      | refine rl_step (by decide) (op_not rfl ?_)
      | refine rl_step (by decide) (op_min rfl rfl ?_)
      | refine rl_step (by decide) (op_max rfl rfl ?_)
      | refine rl_step (by decide) (op_extract rfl rfl ?_)
      | refine rl_step (by decide) (op_add rfl rfl (by omega) ?_)
      | refine rl_step (by decide) (op_sub rfl rfl (by omega) ?_)
      | refine rl_step (by decide) (op_neg rfl (by omega) ?_)))
  refine rl_step (by decide) (op_call ent18 rfl (set_val M (.slice none 0 0) vk5 [] [[]] 4 1 [] _ hr.mb (SlOf.nil _ _ _) hk5 (by unfold I64; omega) ⟨Nat.le_of_ble_eq_true rfl, Nat.le_of_ble_eq_true rfl⟩ rfl rfl) ?_)
  rintro _ wp5 ⟨hbel, vp5, rfl, hp5⟩
  have hs := UpM.of_below (M := M) hbel
  replace ha := ha.mono hs.x
  replace hp1 := hp1.mono hs.x
  replace hp2 := hp2.mono hs.x
  replace hp3 := hp3.mono hs.x
  replace hl4 := hl4.mono hs.x
  replace hl5 := hl5.mono hs.x
  replace hk4 := hk4.mono hs.x
  replace hp4 := hp4.mono hs.x
  replace hk5 := hk5.mono hs.x
  replace hr := hr.up hs
  clear hs hbel
  (repeat (first
      | refine run_seq ?_
      | refine run_region_l ?_
      | refine rl_nil ?_
      | refine rl_step (by decide) (op_move rfl ?_)
      | refine rl_step (by decide) (op_assign rfl ?_)
      | refine run_block ?_
      | refine run_inBlock ?_
      | refine run_exit rfl ?_
      | refine run_skip ?_
      | refine run_label ?_
      | refine run_true rfl ?_
      | refine run_false rfl ?_
      | refine rl_yes rfl rfl ?_
      | refine rl_no rfl rfl rfl (by decide) ?_
      | refine rl_step (by decide) (op_pick_t rfl rfl ?_)
      | refine rl_step (by decide) (op_pick_f rfl rfl ?_)
      | refine rl_step (by decide) (op_lss rfl rfl ?_)
      | refine rl_step (by decide) (op_leq rfl rfl ?_)
      | refine rl_step (by decide) (op_gtr rfl rfl ?_)
      | refine rl_step (by decide) (op_geq rfl rfl ?_)
      | refine rl_step (by decide) (op_eql rfl rfl ?_)
      | refine rl_step (by decide) (op_neq rfl rfl ?_)
      | refine rl_step (by decide) (op_not rfl ?_)
      | refine rl_step (by decide) (op_min rfl rfl ?_)
      | refine rl_step (by decide) (op_max rfl rfl ?_)
      | refine rl_step (by decide) (op_extract rfl rfl ?_)
      | refine rl_step (by decide) (op_add rfl rfl (by omega) ?_)
      | refine rl_step (by decide) (op_sub rfl rfl (by omega) ?_)
      | refine rl_step (by decide) (op_neg rfl (by omega) ?_)))
  (repeat (first
      | refine run_seq ?_
      | refine run_region_l ?_
      | refine rl_nil ?_
      | refine rl_step (by decide) (op_move rfl ?_)
      | refine rl_step (by decide) (op_assign rfl ?_)
      | refine run_block ?_
      | refine run_inBlock ?_
      | refine run_exit rfl ?_
      | refine run_skip ?_
      | refine run_label ?_
      | refine run_true rfl ?_
      | refine run_false rfl ?_
      | refine rl_yes rfl rfl ?_
      | refine rl_no rfl rfl rfl (by decide) ?_
      | refine rl_step (by decide) (op_pick_t rfl rfl ?_)
      | refine rl_step (by decide) (op_pick_f rfl rfl ?_)
      | refine rl_step (by decide) (op_lss rfl rfl ?_)
      | refine rl_step (by decide) (op_leq rfl rfl ?_)
      | refine rl_step (by decide) (op_gtr rfl rfl ?_)
      | refine rl_step (by decide) (op_geq rfl rfl ?_)
      | refine rl_step (by decide) (op_eql rfl rfl ?_)
      | refine rl_step (by decide) (op_neq rfl rfl ?_)
      | refine rl_step (by decide) (op_not rfl ?_)
      | refine rl_step (by decide) (op_min rfl rfl ?_)
      | refine rl_step (by decide) (op_max rfl rfl ?_)
      | refine rl_step (by decide) (op_extract rfl rfl ?_)
      | refine rl_step (by decide) (op_add rfl rfl (by omega) ?_)
      | refine rl_step (by decide) (op_sub rfl rfl (by omega) ?_)
      | refine rl_step (by decide) (op_neg rfl (by omega) ?_)))
  refine rl_step (by decide) (op_call ent18 rfl (set_val M va (.slice none 0 0) oneM [] 3 5 [] _ hr.mb ha (SlOf.nil _ _ _) (by unfold I64; omega) ⟨Nat.le_of_ble_eq_true rfl, Nat.le_of_ble_eq_true rfl⟩ rfl rfl) ?_)
  rintro _ wp6 ⟨hbel, vp6, rfl, hp6⟩
  have hs := UpM.of_below (M := M) hbel
  replace ha := ha.mono hs.x
  replace hp1 := hp1.mono hs.x
  replace hp2 := hp2.mono hs.x
  replace hp3 := hp3.mono hs.x
  replace hl4 := hl4.mono hs.x
  replace hl5 := hl5.mono hs.x
  replace hk4 := hk4.mono hs.x
  replace hp4 := hp4.mono hs.x
  replace hk5 := hk5.mono hs.x
  replace hp5 := hp5.mono hs.x
  replace hr := hr.up hs
  clear hs hbel
  (repeat (first
      | refine run_seq ?_
      | refine run_region_l ?_
      | refine rl_nil ?_
      | refine rl_step (by decide) (op_move rfl ?_)
      | refine rl_step (by decide) (op_assign rfl ?_)
      | refine run_block ?_
      | refine run_inBlock ?_
      | refine run_exit rfl ?_
      | refine run_skip ?_
      | refine run_label ?_
      | refine run_true rfl ?_
      | refine run_false rfl ?_
      | refine rl_yes rfl rfl ?_
      | refine rl_no rfl rfl rfl (by decide) ?_
      | refine rl_step (by decide) (op_pick_t rfl rfl ?_)
      | refine rl_step (by decide) (op_pick_f rfl rfl ?_)
      | refine rl_step (by decide) (op_lss rfl rfl ?_)
      | refine rl_step (by decide) (op_leq rfl rfl ?_)
      | refine rl_step (by decide) (op_gtr rfl rfl ?_)
      | refine rl_step (by decide) (op_geq rfl rfl ?_)
      | refine rl_step (by decide) (op_eql rfl rfl ?_)
      | refine rl_step (by decide) (op_neq rfl rfl ?_)
      | refine rl_step (by decide) (op_not rfl ?_)
      | refine rl_step (by decide) (op_min rfl rfl ?_)
      | refine rl_step (by decide) (op_max rfl rfl ?_)
      | refine rl_step (by decide) (op_extract rfl rfl ?_)
      | refine rl_step (by decide) (op_add rfl rfl (by omega) ?_)
      | refine rl_step (by decide) (op_sub rfl rfl (by omega) ?_)
      | refine rl_step (by decide) (op_neg rfl (by omega) ?_)))
  clear hl4 hl5 hk4 hk5 hp3 hp4 hp5 hp6 ha
  refine rl_step (by decide) (op_len uP rfl hp1 ?_)
  (repeat (first
      | refine run_seq ?_
      | refine run_region_l ?_
      | refine rl_nil ?_
      | refine rl_step (by decide) (op_move rfl ?_)
      | refine rl_step (by decide) (op_assign rfl ?_)
      | refine run_block ?_
      | refine run_inBlock ?_
      | refine run_exit rfl ?_
      | refine run_skip ?_
      | refine run_label ?_
      | refine run_true rfl ?_
      | refine run_false rfl ?_
      | refine rl_yes rfl rfl ?_
      | refine rl_no rfl rfl rfl (by decide) ?_
      | refine rl_step (by decide) (op_pick_t rfl rfl ?_)
      | refine rl_step (by decide) (op_pick_f rfl rfl ?_)
      | refine rl_step (by decide) (op_lss rfl rfl ?_)
      | refine rl_step (by decide) (op_leq rfl rfl ?_)
      | refine rl_step (by decide) (op_gtr rfl rfl ?_)
      | refine rl_step (by decide) (op_geq rfl rfl ?_)
      | refine rl_step (by decide) (op_eql rfl rfl ?_)
      | refine rl_step (by decide) (op_neq rfl rfl ?_)
      | refine rl_step (by decide) (op_not rfl ?_)
      | refine rl_step (by decide) (op_min rfl rfl ?_)
      | refine rl_step (by decide) (op_max rfl rfl ?_)
      | refine rl_step (by decide) (op_extract rfl rfl ?_)
      | refine rl_step (by decide) (op_add rfl rfl (by omega) ?_)
      | refine rl_step (by decide) (op_sub rfl rfl (by omega) ?_)
      | refine rl_step (by decide) (op_neg rfl (by omega) ?_)))
  refine rl_step (by decide) (op_len uP rfl hp2 ?_)
  (repeat (first
      | refine run_seq ?_
      | refine run_region_l ?_
      | refine rl_nil ?_
      | refine rl_step (by decide) (op_move rfl ?_)
      | refine rl_step (by decide) (op_assign rfl ?_)
      | refine run_block ?_
      | refine run_inBlock ?_
      | refine run_exit rfl ?_
      | refine run_skip ?_
      | refine run_label ?_
      | refine run_true rfl ?_
      | refine run_false rfl ?_
      | refine rl_yes rfl rfl ?_
      | refine rl_no rfl rfl rfl (by decide) ?_
      | refine rl_step (by decide) (op_pick_t rfl rfl ?_)
      | refine rl_step (by decide) (op_pick_f rfl rfl ?_)
      | refine rl_step (by decide) (op_lss rfl rfl ?_)
      | refine rl_step (by decide) (op_leq rfl rfl ?_)
      | refine rl_step (by decide) (op_gtr rfl rfl ?_)
      | refine rl_step (by decide) (op_geq rfl rfl ?_)
      | refine rl_step (by decide) (op_eql rfl rfl ?_)
      | refine rl_step (by decide) (op_neq rfl rfl ?_)
      | refine rl_step (by decide) (op_not rfl ?_)
      | refine rl_step (by decide) (op_min rfl rfl ?_)
      | refine rl_step (by decide) (op_max rfl rfl ?_)
      | refine rl_step (by decide) (op_extract rfl rfl ?_)
      | refine rl_step (by decide) (op_add rfl rfl (by omega) ?_)
      | refine rl_step (by decide) (op_sub rfl rfl (by omega) ?_)
      | refine rl_step (by decide) (op_neg rfl (by omega) ?_)))
  refine rl_step (by decide) (op_indexAddr uP teP rfl rfl hp1 ⟨by decide, by decide⟩ ?_)
  intro ad _ he
  (repeat (first
      | refine run_seq ?_
      | refine run_region_l ?_
      | refine rl_nil ?_
      | refine rl_step (by decide) (op_move rfl ?_)
      | refine rl_step (by decide) (op_assign rfl ?_)
      | refine run_block ?_
      | refine run_inBlock ?_
      | refine run_exit rfl ?_
      | refine run_skip ?_
      | refine run_label ?_
      | refine run_true rfl ?_
      | refine run_false rfl ?_
      | refine rl_yes rfl rfl ?_
      | refine rl_no rfl rfl rfl (by decide) ?_
      | refine rl_step (by decide) (op_pick_t rfl rfl ?_)
      | refine rl_step (by decide) (op_pick_f rfl rfl ?_)
      | refine rl_step (by decide) (op_lss rfl rfl ?_)
      | refine rl_step (by decide) (op_leq rfl rfl ?_)
      | refine rl_step (by decide) (op_gtr rfl rfl ?_)
      | refine rl_step (by decide) (op_geq rfl rfl ?_)
      | refine rl_step (by decide) (op_eql rfl rfl ?_)
      | refine rl_step (by decide) (op_neq rfl rfl ?_)
      | refine rl_step (by decide) (op_not rfl ?_)
      | refine rl_step (by decide) (op_min rfl rfl ?_)
      | refine rl_step (by decide) (op_max rfl rfl ?_)
      | refine rl_step (by decide) (op_extract rfl rfl ?_)
      | refine rl_step (by decide) (op_add rfl rfl (by omega) ?_)
      | refine rl_step (by decide) (op_sub rfl rfl (by omega) ?_)
      | refine rl_step (by decide) (op_neg rfl (by omega) ?_)))
  refine rl_step (by decide) (op_load teP rfl he ?_)
  clear he
  intro u1 hu1
  (repeat (first
      | refine run_seq ?_
      | refine run_region_l ?_
      | refine rl_nil ?_
      | refine rl_step (by decide) (op_move rfl ?_)
      | refine rl_step (by decide) (op_assign rfl ?_)
      | refine run_block ?_
      | refine run_inBlock ?_
      | refine run_exit rfl ?_
      | refine run_skip ?_
      | refine run_label ?_
      | refine run_true rfl ?_
      | refine run_false rfl ?_
      | refine rl_yes rfl rfl ?_
      | refine rl_no rfl rfl rfl (by decide) ?_
      | refine rl_step (by decide) (op_pick_t rfl rfl ?_)
      | refine rl_step (by decide) (op_pick_f rfl rfl ?_)
      | refine rl_step (by decide) (op_lss rfl rfl ?_)
      | refine rl_step (by decide) (op_leq rfl rfl ?_)
      | refine rl_step (by decide) (op_gtr rfl rfl ?_)
      | refine rl_step (by decide) (op_geq rfl rfl ?_)
      | refine rl_step (by decide) (op_eql rfl rfl ?_)
      | refine rl_step (by decide) (op_neq rfl rfl ?_)
      | refine rl_step (by decide) (op_not rfl ?_)
      | refine rl_step (by decide) (op_min rfl rfl ?_)
      | refine rl_step (by decide) (op_max rfl rfl ?_)
      | refine rl_step (by decide) (op_extract rfl rfl ?_)
      | refine rl_step (by decide) (op_add rfl rfl (by omega) ?_)
      | refine rl_step (by decide) (op_sub rfl rfl (by omega) ?_)
      | refine rl_step (by decide) (op_neg rfl (by omega) ?_)))
  refine rl_step (by decide) (op_call ent53 rfl (shape_c M _ _ _ 10 11 1 1 hr.mb hu1 (by omega) (by omega) (by omega) (by omega) rfl rfl rfl rfl) ?_)
  rintro _ w_ ⟨rfl, hbel⟩
  clear hu1
  have hs := UpM.of_below (M := M) hbel
  replace hp1 := hp1.mono hs.x
  replace hp2 := hp2.mono hs.x
  replace hr := hr.up hs
  clear hs hbel
  (repeat (first
      | refine run_seq ?_
      | refine run_region_l ?_
      | refine rl_nil ?_
      | refine rl_step (by decide) (op_move rfl ?_)
      | refine rl_step (by decide) (op_assign rfl ?_)
      | refine run_block ?_
      | refine run_inBlock ?_
      | refine run_exit rfl ?_
      | refine run_skip ?_
      | refine run_label ?_
      | refine run_true rfl ?_
      | refine run_false rfl ?_
      | refine rl_yes rfl rfl ?_
      | refine rl_no rfl rfl rfl (by decide) ?_
      | refine rl_step (by decide) (op_pick_t rfl rfl ?_)
      | refine rl_step (by decide) (op_pick_f rfl rfl ?_)
      | refine rl_step (by decide) (op_lss rfl rfl ?_)
      | refine rl_step (by decide) (op_leq rfl rfl ?_)
      | refine rl_step (by decide) (op_gtr rfl rfl ?_)
      | refine rl_step (by decide) (op_geq rfl rfl ?_)
      | refine rl_step (by decide) (op_eql rfl rfl ?_)
      | refine rl_step (by decide) (op_neq rfl rfl ?_)
      | refine rl_step (by decide) (op_not rfl ?_)
      | refine rl_step (by decide) (op_min rfl rfl ?_)
      | refine rl_step (by decide) (op_max rfl rfl ?_)
      | refine rl_step (by decide) (op_extract rfl rfl ?_)
      | refine rl_step (by decide) (op_add rfl rfl (by omega) ?_)
      | refine rl_step (by decide) (op_sub rfl rfl (by omega) ?_)
      | refine rl_step (by decide) (op_neg rfl (by omega) ?_)))
  refine rl_step (by decide) (op_indexAddr uP teP rfl rfl hp1 ⟨by decide, by decide⟩ ?_)
  intro ad _ he
  (repeat (first
      | refine run_seq ?_
      | refine run_region_l ?_
      | refine rl_nil ?_
      | refine rl_step (by decide) (op_move rfl ?_)
      | refine rl_step (by decide) (op_assign rfl ?_)
      | refine run_block ?_
      | refine run_inBlock ?_
      | refine run_exit rfl ?_
      | refine run_skip ?_
      | refine run_label ?_
      | refine run_true rfl ?_
      | refine run_false rfl ?_
      | refine rl_yes rfl rfl ?_
      | refine rl_no rfl rfl rfl (by decide) ?_
      | refine rl_step (by decide) (op_pick_t rfl rfl ?_)
      | refine rl_step (by decide) (op_pick_f rfl rfl ?_)
      | refine rl_step (by decide) (op_lss rfl rfl ?_)
      | refine rl_step (by decide) (op_leq rfl rfl ?_)
      | refine rl_step (by decide) (op_gtr rfl rfl ?_)
      | refine rl_step (by decide) (op_geq rfl rfl ?_)
      | refine rl_step (by decide) (op_eql rfl rfl ?_)
      | refine rl_step (by decide) (op_neq rfl rfl ?_)
      | refine rl_step (by decide) (op_not rfl ?_)
      | refine rl_step (by decide) (op_min rfl rfl ?_)
      | refine rl_step (by decide) (op_max rfl rfl ?_)
      | refine rl_step (by decide) (op_extract rfl rfl ?_)
      | refine rl_step (by decide) (op_add rfl rfl (by omega) ?_)
      | refine rl_step (by decide) (op_sub rfl rfl (by omega) ?_)
      | refine rl_step (by decide) (op_neg rfl (by omega) ?_)))
  refine rl_step (by decide) (op_load teP rfl he ?_)
  clear he
  intro u2 hu2
  (repeat (first
      | refine run_seq ?_
      | refine run_region_l ?_
      | refine rl_nil ?_
      | refine rl_step (by decide) (op_move rfl ?_)
      | refine rl_step (by decide) (op_assign rfl ?_)
      | refine run_block ?_
      | refine run_inBlock ?_
      | refine run_exit rfl ?_
      | refine run_skip ?_
      | refine run_label ?_
      | refine run_true rfl ?_
      | refine run_false rfl ?_
      | refine rl_yes rfl rfl ?_
      | refine rl_no rfl rfl rfl (by decide) ?_
      | refine rl_step (by decide) (op_pick_t rfl rfl ?_)
      | refine rl_step (by decide) (op_pick_f rfl rfl ?_)
      | refine rl_step (by decide) (op_lss rfl rfl ?_)
      | refine rl_step (by decide) (op_leq rfl rfl ?_)
      | refine rl_step (by decide) (op_gtr rfl rfl ?_)
      | refine rl_step (by decide) (op_geq rfl rfl ?_)
      | refine rl_step (by decide) (op_eql rfl rfl ?_)
      | refine rl_step (by decide) (op_neq rfl rfl ?_)
      | refine rl_step (by decide) (op_not rfl ?_)
      | refine rl_step (by decide) (op_min rfl rfl ?_)
      | refine rl_step (by decide) (op_max rfl rfl ?_)
      | refine rl_step (by decide) (op_extract rfl rfl ?_)
      | refine rl_step (by decide) (op_add rfl rfl (by omega) ?_)
      | refine rl_step (by decide) (op_sub rfl rfl (by omega) ?_)
      | refine rl_step (by decide) (op_neg rfl (by omega) ?_)))
  refine rl_step (by decide) (op_call ent53 rfl (shape_c M _ _ _ 12 12 2 3 hr.mb hu2 (by omega) (by omega) (by omega) (by omega) rfl rfl rfl rfl) ?_)
  rintro _ w_ ⟨rfl, hbel⟩
  clear hu2
  have hs := UpM.of_below (M := M) hbel
  replace hp1 := hp1.mono hs.x
  replace hp2 := hp2.mono hs.x
  replace hr := hr.up hs
  clear hs hbel
  (repeat (first
      | refine run_seq ?_
      | refine run_region_l ?_
      | refine rl_nil ?_
      | refine rl_step (by decide) (op_move rfl ?_)
      | refine rl_step (by decide) (op_assign rfl ?_)
      | refine run_block ?_
      | refine run_inBlock ?_
      | refine run_exit rfl ?_
      | refine run_skip ?_
      | refine run_label ?_
      | refine run_true rfl ?_
      | refine run_false rfl ?_
      | refine rl_yes rfl rfl ?_
      | refine rl_no rfl rfl rfl (by decide) ?_
      | refine rl_step (by decide) (op_pick_t rfl rfl ?_)
      | refine rl_step (by decide) (op_pick_f rfl rfl ?_)
      | refine rl_step (by decide) (op_lss rfl rfl ?_)
      | refine rl_step (by decide) (op_leq rfl rfl ?_)
      | refine rl_step (by decide) (op_gtr rfl rfl ?_)
      | refine rl_step (by decide) (op_geq rfl rfl ?_)
      | refine rl_step (by decide) (op_eql rfl rfl ?_)
      | refine rl_step (by decide) (op_neq rfl rfl ?_)
      | refine rl_step (by decide) (op_not rfl ?_)
      | refine rl_step (by decide) (op_min rfl rfl ?_)
      | refine rl_step (by decide) (op_max rfl rfl ?_)
      | refine rl_step (by decide) (op_extract rfl rfl ?_)
      | refine rl_step (by decide) (op_add rfl rfl (by omega) ?_)
      | refine rl_step (by decide) (op_sub rfl rfl (by omega) ?_)
      | refine rl_step (by decide) (op_neg rfl (by omega) ?_)))
  refine rl_step (by decide) (op_indexAddr uP teP rfl rfl hp1 ⟨by decide, by decide⟩ ?_)
  intro ad _ he
  (repeat (first
      | refine run_seq ?_
      | refine run_region_l ?_
      | refine rl_nil ?_
      | refine rl_step (by decide) (op_move rfl ?_)
      | refine rl_step (by decide) (op_assign rfl ?_)
      | refine run_block ?_
      | refine run_inBlock ?_
      | refine run_exit rfl ?_
      | refine run_skip ?_
      | refine run_label ?_
      | refine run_true rfl ?_
      | refine run_false rfl ?_
      | refine rl_yes rfl rfl ?_
      | refine rl_no rfl rfl rfl (by decide) ?_
      | refine rl_step (by decide) (op_pick_t rfl rfl ?_)
      | refine rl_step (by decide) (op_pick_f rfl rfl ?_)
      | refine rl_step (by decide) (op_lss rfl rfl ?_)
      | refine rl_step (by decide) (op_leq rfl rfl ?_)
      | refine rl_step (by decide) (op_gtr rfl rfl ?_)
      | refine rl_step (by decide) (op_geq rfl rfl ?_)
      | refine rl_step (by decide) (op_eql rfl rfl ?_)
      | refine rl_step (by decide) (op_neq rfl rfl ?_)
      | refine rl_step (by decide) (op_not rfl ?_)
      | refine rl_step (by decide) (op_min rfl rfl ?_)
      | refine rl_step (by decide) (op_max rfl rfl ?_)
      | refine rl_step (by decide) (op_extract rfl rfl ?_)
      | refine rl_step (by decide) (op_add rfl rfl (by omega) ?_)
      | refine rl_step (by decide) (op_sub rfl rfl (by omega) ?_)
      | refine rl_step (by decide) (op_neg rfl (by omega) ?_)))
  refine rl_step (by decide) (op_load teP rfl he ?_)
  clear he
  intro u3 hu3
  (repeat (first
      | refine run_seq ?_
      | refine run_region_l ?_
      | refine rl_nil ?_
      | refine rl_step (by decide) (op_move rfl ?_)
      | refine rl_step (by decide) (op_assign rfl ?_)
      | refine run_block ?_
      | refine run_inBlock ?_
      | refine run_exit rfl ?_
      | refine run_skip ?_
      | refine run_label ?_
      | refine run_true rfl ?_
      | refine run_false rfl ?_
      | refine rl_yes rfl rfl ?_
      | refine rl_no rfl rfl rfl (by decide) ?_
      | refine rl_step (by decide) (op_pick_t rfl rfl ?_)
      | refine rl_step (by decide) (op_pick_f rfl rfl ?_)
      | refine rl_step (by decide) (op_lss rfl rfl ?_)
      | refine rl_step (by decide) (op_leq rfl rfl ?_)
      | refine rl_step (by decide) (op_gtr rfl rfl ?_)
      | refine rl_step (by decide) (op_geq rfl rfl ?_)
      | refine rl_step (by decide) (op_eql rfl rfl ?_)
      | refine rl_step (by decide) (op_neq rfl rfl ?_)
      | refine rl_step (by decide) (op_not rfl ?_)
      | refine rl_step (by decide) (op_min rfl rfl ?_)
      | refine rl_step (by decide) (op_max rfl rfl ?_)
      | refine rl_step (by decide) (op_extract rfl rfl ?_)
      | refine rl_step (by decide) (op_add rfl rfl (by omega) ?_)
      | refine rl_step (by decide) (op_sub rfl rfl (by omega) ?_)
      | refine rl_step (by decide) (op_neg rfl (by omega) ?_)))
  refine rl_step (by decide) (op_call ent53 rfl (shape_c M _ _ _ 13 14 1 0 hr.mb hu3 (by omega) (by omega) (by omega) (by omega) rfl rfl rfl rfl) ?_)
  rintro _ w_ ⟨rfl, hbel⟩
  clear hu3
  have hs := UpM.of_below (M := M) hbel
  replace hp1 := hp1.mono hs.x
  replace hp2 := hp2.mono hs.x
  replace hr := hr.up hs
  clear hs hbel
  (repeat (first
      | refine run_seq ?_
      | refine run_region_l ?_
      | refine rl_nil ?_
      | refine rl_step (by decide) (op_move rfl ?_)
      | refine rl_step (by decide) (op_assign rfl ?_)
      | refine run_block ?_
      | refine run_inBlock ?_
      | refine run_exit rfl ?_
      | refine run_skip ?_
      | refine run_label ?_
      | refine run_true rfl ?_
      | refine run_false rfl ?_
      | refine rl_yes rfl rfl ?_
      | refine rl_no rfl rfl rfl (by decide) ?_
      | refine rl_step (by decide) (op_pick_t rfl rfl ?_)
      | refine rl_step (by decide) (op_pick_f rfl rfl ?_)
      | refine rl_step (by decide) (op_lss rfl rfl ?_)
      | refine rl_step (by decide) (op_leq rfl rfl ?_)
      | refine rl_step (by decide) (op_gtr rfl rfl ?_)
      | refine rl_step (by decide) (op_geq rfl rfl ?_)
      | refine rl_step (by decide) (op_eql rfl rfl ?_)
      | refine rl_step (by decide) (op_neq rfl rfl ?_)
      | refine rl_step (by decide) (op_not rfl ?_)
      | refine rl_step (by decide) (op_min rfl rfl ?_)
      | refine rl_step (by decide) (op_max rfl rfl ?_)
      | refine rl_step (by decide) (op_extract rfl rfl ?_)
      | refine rl_step (by decide) (op_add rfl rfl (by omega) ?_)
      | refine rl_step (by decide) (op_sub rfl rfl (by omega) ?_)
      | refine rl_step (by decide) (op_neg rfl (by omega) ?_)))
  refine rl_step (by decide) (op_indexAddr uP teP rfl rfl hp1 ⟨by decide, by decide⟩ ?_)
  intro ad _ he
  (repeat (first
      | refine run_seq ?_
      | refine run_region_l ?_
      | refine rl_nil ?_
      | refine rl_step (by decide) (op_move rfl ?_)
      | refine rl_step (by decide) (op_assign rfl ?_)
      | refine run_block ?_
      | refine run_inBlock ?_
      | refine run_exit rfl ?_
      | refine run_skip ?_
      | refine run_label ?_
      | refine run_true rfl ?_
      | refine run_false rfl ?_
      | refine rl_yes rfl rfl ?_
      | refine rl_no rfl rfl rfl (by decide) ?_
      | refine rl_step (by decide) (op_pick_t rfl rfl ?_)
      | refine rl_step (by decide) (op_pick_f rfl rfl ?_)
      | refine rl_step (by decide) (op_lss rfl rfl ?_)
      | refine rl_step (by decide) (op_leq rfl rfl ?_)
      | refine rl_step (by decide) (op_gtr rfl rfl ?_)
      | refine rl_step (by decide) (op_geq rfl rfl ?_)
      | refine rl_step (by decide) (op_eql rfl rfl ?_)
      | refine rl_step (by decide) (op_neq rfl rfl ?_)
      | refine rl_step (by decide) (op_not rfl ?_)
      | refine rl_step (by decide) (op_min rfl rfl ?_)
      | refine rl_step (by decide) (op_max rfl rfl ?_)
      | refine rl_step (by decide) (op_extract rfl rfl ?_)
      | refine rl_step (by decide) (op_add rfl rfl (by omega) ?_)
      | refine rl_step (by decide) (op_sub rfl rfl (by omega) ?_)
      | refine rl_step (by decide) (op_neg rfl (by omega) ?_)))
  refine rl_step (by decide) (op_load teP rfl he ?_)
  clear he
  intro u4 hu4
  (repeat (first
      | refine run_seq ?_
      | refine run_region_l ?_
      | refine rl_nil ?_
      | refine rl_step (by decide) (op_move rfl ?_)
      | refine rl_step (by decide) (op_assign rfl ?_)
      | refine run_block ?_
      | refine run_inBlock ?_
      | refine run_exit rfl ?_
      | refine run_skip ?_
      | refine run_label ?_
      | refine run_true rfl ?_
      | refine run_false rfl ?_
      | refine rl_yes rfl rfl ?_
      | refine rl_no rfl rfl rfl (by decide) ?_
      | refine rl_step (by decide) (op_pick_t rfl rfl ?_)
      | refine rl_step (by decide) (op_pick_f rfl rfl ?_)
      | refine rl_step (by decide) (op_lss rfl rfl ?_)
      | refine rl_step (by decide) (op_leq rfl rfl ?_)
      | refine rl_step (by decide) (op_gtr rfl rfl ?_)
      | refine rl_step (by decide) (op_geq rfl rfl ?_)
      | refine rl_step (by decide) (op_eql rfl rfl ?_)
      | refine rl_step (by decide) (op_neq rfl rfl ?_)
      | refine rl_step (by decide) (op_not rfl ?_)
      | refine rl_step (by decide) (op_min rfl rfl ?_)
      | refine rl_step (by decide) (op_max rfl rfl ?_)
      | refine rl_step (by decide) (op_extract rfl rfl ?_)
      | refine rl_step (by decide) (op_add rfl rfl (by omega) ?_)
      | refine rl_step (by decide) (op_sub rfl rfl (by omega) ?_)
      | refine rl_step (by decide) (op_neg rfl (by omega) ?_)))
  refine rl_step (by decide) (op_call ent25 rfl (room_p M _ _ _ 4 hr.mb hu4 (by omega)) ?_)
  rintro _ w_ ⟨rfl, hbel⟩
  clear hu4
  have hs := UpM.of_below (M := M) hbel
  replace hp1 := hp1.mono hs.x
  replace hp2 := hp2.mono hs.x
  replace hr := hr.up hs
  clear hs hbel
  (repeat (first
      | refine run_seq ?_
      | refine run_region_l ?_
      | refine rl_nil ?_
      | refine rl_step (by decide) (op_move rfl ?_)
      | refine rl_step (by decide) (op_assign rfl ?_)
      | refine run_block ?_
      | refine run_inBlock ?_
      | refine run_exit rfl ?_
      | refine run_skip ?_
      | refine run_label ?_
      | refine run_true rfl ?_
      | refine run_false rfl ?_
      | refine rl_yes rfl rfl ?_
      | refine rl_no rfl rfl rfl (by decide) ?_
      | refine rl_step (by decide) (op_pick_t rfl rfl ?_)
      | refine rl_step (by decide) (op_pick_f rfl rfl ?_)
      | refine rl_step (by decide) (op_lss rfl rfl ?_)
      | refine rl_step (by decide) (op_leq rfl rfl ?_)
      | refine rl_step (by decide) (op_gtr rfl rfl ?_)
      | refine rl_step (by decide) (op_geq rfl rfl ?_)
      | refine rl_step (by decide) (op_eql rfl rfl ?_)
      | refine rl_step (by decide) (op_neq rfl rfl ?_)
      | refine rl_step (by decide) (op_not rfl ?_)
      | refine rl_step (by decide) (op_min rfl rfl ?_)
      | refine rl_step (by decide) (op_max rfl rfl ?_)
      | refine rl_step (by decide) (op_extract rfl rfl ?_)
      | refine rl_step (by decide) (op_add rfl rfl (by omega) ?_)
      | refine rl_step (by decide) (op_sub rfl rfl (by omega) ?_)
      | refine rl_step (by decide) (op_neg rfl (by omega) ?_)))
  (repeat (first
      | refine run_seq ?_
      | refine run_region_l ?_
      | refine rl_nil ?_
      | refine rl_step (by decide) (op_move rfl ?_)
      | refine rl_step (by decide) (op_assign rfl ?_)
      | refine run_block ?_
      | refine run_inBlock ?_
      | refine run_exit rfl ?_
      | refine run_skip ?_
      | refine run_label ?_
      | refine run_true rfl ?_
      | refine run_false rfl ?_
      | refine rl_yes rfl rfl ?_
      | refine rl_no rfl rfl rfl (by decide) ?_
      | refine rl_step (by decide) (op_pick_t rfl rfl ?_)
      | refine rl_step (by decide) (op_pick_f rfl rfl ?_)
      | refine rl_step (by decide) (op_lss rfl rfl ?_)
      | refine rl_step (by decide) (op_leq rfl rfl ?_)
      | refine rl_step (by decide) (op_gtr rfl rfl ?_)
      | refine rl_step (by decide) (op_geq rfl rfl ?_)
      | refine rl_step (by decide) (op_eql rfl rfl ?_)
      | refine rl_step (by decide) (op_neq rfl rfl ?_)
      | refine rl_step (by decide) (op_not rfl ?_)
      | refine rl_step (by decide) (op_min rfl rfl ?_)
      | refine rl_step (by decide) (op_max rfl rfl ?_)
      | refine rl_step (by decide) (op_extract rfl rfl ?_)
      | refine rl_step (by decide) (op_add rfl rfl (by omega) ?_)
      | refine rl_step (by decide) (op_sub rfl rfl (by omega) ?_)
      | refine rl_step (by decide) (op_neg rfl (by omega) ?_)))
  refine rl_step (by decide) (op_indexAddr uP teP rfl rfl hp2 ⟨by decide, by decide⟩ ?_)
  intro ad _ he
  (repeat (first
      | refine run_seq ?_
      | refine run_region_l ?_
      | refine rl_nil ?_
      | refine rl_step (by decide) (op_move rfl ?_)
      | refine rl_step (by decide) (op_assign rfl ?_)
      | refine run_block ?_
      | refine run_inBlock ?_
      | refine run_exit rfl ?_
      | refine run_skip ?_
      | refine run_label ?_
      | refine run_true rfl ?_
      | refine run_false rfl ?_
      | refine rl_yes rfl rfl ?_
      | refine rl_no rfl rfl rfl (by decide) ?_
      | refine rl_step (by decide) (op_pick_t rfl rfl ?_)
      | refine rl_step (by decide) (op_pick_f rfl rfl ?_)
      | refine rl_step (by decide) (op_lss rfl rfl ?_)
      | refine rl_step (by decide) (op_leq rfl rfl ?_)
      | refine rl_step (by decide) (op_gtr rfl rfl ?_)
      | refine rl_step (by decide) (op_geq rfl rfl ?_)
      | refine rl_step (by decide) (op_eql rfl rfl ?_)
      | refine rl_step (by decide) (op_neq rfl rfl ?_)
      | refine rl_step (by decide) (op_not rfl ?_)
      | refine rl_step (by decide) (op_min rfl rfl ?_)
      | refine rl_step (by decide) (op_max rfl rfl ?_)
      | refine rl_step (by decide) (op_extract rfl rfl ?_)
      | refine rl_step (by decide) (op_add rfl rfl (by omega) ?_)
      | refine rl_step (by decide) (op_sub rfl rfl (by omega) ?_)
      | refine rl_step (by decide) (op_neg rfl (by omega) ?_)))
  refine rl_step (by decide) (op_load teP rfl he ?_)
  clear he
  intro u5 hu5
  (repeat (first
      | refine run_seq ?_
      | refine run_region_l ?_
      | refine rl_nil ?_
      | refine rl_step (by decide) (op_move rfl ?_)
      | refine rl_step (by decide) (op_assign rfl ?_)
      | refine run_block ?_
      | refine run_inBlock ?_
      | refine run_exit rfl ?_
      | refine run_skip ?_
      | refine run_label ?_
      | refine run_true rfl ?_
      | refine run_false rfl ?_
      | refine rl_yes rfl rfl ?_
      | refine rl_no rfl rfl rfl (by decide) ?_
      | refine rl_step (by decide) (op_pick_t rfl rfl ?_)
      | refine rl_step (by decide) (op_pick_f rfl rfl ?_)
      | refine rl_step (by decide) (op_lss rfl rfl ?_)
      | refine rl_step (by decide) (op_leq rfl rfl ?_)
      | refine rl_step (by decide) (op_gtr rfl rfl ?_)
      | refine rl_step (by decide) (op_geq rfl rfl ?_)
      | refine rl_step (by decide) (op_eql rfl rfl ?_)
      | refine rl_step (by decide) (op_neq rfl rfl ?_)
      | refine rl_step (by decide) (op_not rfl ?_)
      | refine rl_step (by decide) (op_min rfl rfl ?_)
      | refine rl_step (by decide) (op_max rfl rfl ?_)
      | refine rl_step (by decide) (op_extract rfl rfl ?_)
      | refine rl_step (by decide) (op_add rfl rfl (by omega) ?_)
      | refine rl_step (by decide) (op_sub rfl rfl (by omega) ?_)
      | refine rl_step (by decide) (op_neg rfl (by omega) ?_)))
  refine rl_step (by decide) (op_call ent53 rfl (shape_c M _ _ _ 10 11 1 1 hr.mb hu5 (by omega) (by omega) (by omega) (by omega) rfl rfl rfl rfl) ?_)
  rintro _ w_ ⟨rfl, hbel⟩
  clear hu5
  have hs := UpM.of_below (M := M) hbel
  replace hp1 := hp1.mono hs.x
  replace hp2 := hp2.mono hs.x
  replace hr := hr.up hs
  clear hs hbel
  (repeat (first
      | refine run_seq ?_
      | refine run_region_l ?_
      | refine rl_nil ?_
      | refine rl_step (by decide) (op_move rfl ?_)
      | refine rl_step (by decide) (op_assign rfl ?_)
      | refine run_block ?_
      | refine run_inBlock ?_
      | refine run_exit rfl ?_
      | refine run_skip ?_
      | refine run_label ?_
      | refine run_true rfl ?_
      | refine run_false rfl ?_
      | refine rl_yes rfl rfl ?_
      | refine rl_no rfl rfl rfl (by decide) ?_
      | refine rl_step (by decide) (op_pick_t rfl rfl ?_)
      | refine rl_step (by decide) (op_pick_f rfl rfl ?_)
      | refine rl_step (by decide) (op_lss rfl rfl ?_)
      | refine rl_step (by decide) (op_leq rfl rfl ?_)
      | refine rl_step (by decide) (op_gtr rfl rfl ?_)
      | refine rl_step (by decide) (op_geq rfl rfl ?_)
      | refine rl_step (by decide) (op_eql rfl rfl ?_)
      | refine rl_step (by decide) (op_neq rfl rfl ?_)
      | refine rl_step (by decide) (op_not rfl ?_)
      | refine rl_step (by decide) (op_min rfl rfl ?_)
      | refine rl_step (by decide) (op_max rfl rfl ?_)
      | refine rl_step (by decide) (op_extract rfl rfl ?_)
      | refine rl_step (by decide) (op_add rfl rfl (by omega) ?_)
      | refine rl_step (by decide) (op_sub rfl rfl (by omega) ?_)
      | refine rl_step (by decide) (op_neg rfl (by omega) ?_)))
  refine rl_step (by decide) (op_indexAddr uP teP rfl rfl hp2 ⟨by decide, by decide⟩ ?_)
  intro ad _ he
  (repeat (first
      | refine run_seq ?_
      | refine run_region_l ?_
      | refine rl_nil ?_
      | refine rl_step (by decide) (op_move rfl ?_)
      | refine rl_step (by decide) (op_assign rfl ?_)
      | refine run_block ?_
      | refine run_inBlock ?_
      | refine run_exit rfl ?_
      | refine run_skip ?_
      | refine run_label ?_
      | refine run_true rfl ?_
      | refine run_false rfl ?_
      | refine rl_yes rfl rfl ?_
      | refine rl_no rfl rfl rfl (by decide) ?_
      | refine rl_step (by decide) (op_pick_t rfl rfl ?_)
      | refine rl_step (by decide) (op_pick_f rfl rfl ?_)
      | refine rl_step (by decide) (op_lss rfl rfl ?_)
      | refine rl_step (by decide) (op_leq rfl rfl ?_)
      | refine rl_step (by decide) (op_gtr rfl rfl ?_)
      | refine rl_step (by decide) (op_geq rfl rfl ?_)
      | refine rl_step (by decide) (op_eql rfl rfl ?_)
      | refine rl_step (by decide) (op_neq rfl rfl ?_)
      | refine rl_step (by decide) (op_not rfl ?_)
      | refine rl_step (by decide) (op_min rfl rfl ?_)
      | refine rl_step (by decide) (op_max rfl rfl ?_)
      | refine rl_step (by decide) (op_extract rfl rfl ?_)
      | refine rl_step (by decide) (op_add rfl rfl (by omega) ?_)
      | refine rl_step (by decide) (op_sub rfl rfl (by omega) ?_)
      | refine rl_step (by decide) (op_neg rfl (by omega) ?_)))
  refine rl_step (by decide) (op_load teP rfl he ?_)
  clear he
  intro u6 hu6
  (repeat (first
      | refine run_seq ?_
      | refine run_region_l ?_
      | refine rl_nil ?_
      | refine rl_step (by decide) (op_move rfl ?_)
      | refine rl_step (by decide) (op_assign rfl ?_)
      | refine run_block ?_
      | refine run_inBlock ?_
      | refine run_exit rfl ?_
      | refine run_skip ?_
      | refine run_label ?_
      | refine run_true rfl ?_
      | refine run_false rfl ?_
      | refine rl_yes rfl rfl ?_
      | refine rl_no rfl rfl rfl (by decide) ?_
      | refine rl_step (by decide) (op_pick_t rfl rfl ?_)
      | refine rl_step (by decide) (op_pick_f rfl rfl ?_)
      | refine rl_step (by decide) (op_lss rfl rfl ?_)
      | refine rl_step (by decide) (op_leq rfl rfl ?_)
      | refine rl_step (by decide) (op_gtr rfl rfl ?_)
      | refine rl_step (by decide) (op_geq rfl rfl ?_)
      | refine rl_step (by decide) (op_eql rfl rfl ?_)
      | refine rl_step (by decide) (op_neq rfl rfl ?_)
      | refine rl_step (by decide) (op_not rfl ?_)
      | refine rl_step (by decide) (op_min rfl rfl ?_)
      | refine rl_step (by decide) (op_max rfl rfl ?_)
      | refine rl_step (by decide) (op_extract rfl rfl ?_)
      | refine rl_step (by decide) (op_add rfl rfl (by omega) ?_)
      | refine rl_step (by decide) (op_sub rfl rfl (by omega) ?_)
      | refine rl_step (by decide) (op_neg rfl (by omega) ?_)))
  refine rl_step (by decide) (op_call ent53 rfl (shape_c M _ _ _ 1 0 2 4 hr.mb hu6 (by omega) (by omega) (by omega) (by omega) rfl rfl rfl rfl) ?_)
  rintro _ w_ ⟨rfl, hbel⟩
  clear hu6
  have hs := UpM.of_below (M := M) hbel
  replace hp1 := hp1.mono hs.x
  replace hp2 := hp2.mono hs.x
  replace hr := hr.up hs
  clear hs hbel
  (repeat (first
      | refine run_seq ?_
      | refine run_region_l ?_
      | refine rl_nil ?_
      | refine rl_step (by decide) (op_move rfl ?_)
      | refine rl_step (by decide) (op_assign rfl ?_)
      | refine run_block ?_
      | refine run_inBlock ?_
      | refine run_exit rfl ?_
      | refine run_skip ?_
      | refine run_label ?_
      | refine run_true rfl ?_
      | refine run_false rfl ?_
      | refine rl_yes rfl rfl ?_
      | refine rl_no rfl rfl rfl (by decide) ?_
      | refine rl_step (by decide) (op_pick_t rfl rfl ?_)
      | refine rl_step (by decide) (op_pick_f rfl rfl ?_)
      | refine rl_step (by decide) (op_lss rfl rfl ?_)
      | refine rl_step (by decide) (op_leq rfl rfl ?_)
      | refine rl_step (by decide) (op_gtr rfl rfl ?_)
      | refine rl_step (by decide) (op_geq rfl rfl ?_)
      | refine rl_step (by decide) (op_eql rfl rfl ?_)
      | refine rl_step (by decide) (op_neq rfl rfl ?_)
      | refine rl_step (by decide) (op_not rfl ?_)
      | refine rl_step (by decide) (op_min rfl rfl ?_)
      | refine rl_step (by decide) (op_max rfl rfl ?_)
      | refine rl_step (by decide) (op_extract rfl rfl ?_)
      | refine rl_step (by decide) (op_add rfl rfl (by omega) ?_)
      | refine rl_step (by decide) (op_sub rfl rfl (by omega) ?_)
      | refine rl_step (by decide) (op_neg rfl (by omega) ?_)))
  refine rl_step (by decide) (op_indexAddr uP teP rfl rfl hp2 ⟨by decide, by decide⟩ ?_)
  intro ad _ he
  (repeat (first
      | refine run_seq ?_
      | refine run_region_l ?_
      | refine rl_nil ?_
      | refine rl_step (by decide) (op_move rfl ?_)
      | refine rl_step (by decide) (op_assign rfl ?_)
      | refine run_block ?_
      | refine run_inBlock ?_
      | refine run_exit rfl ?_
      | refine run_skip ?_
      | refine run_label ?_
      | refine run_true rfl ?_
      | refine run_false rfl ?_
      | refine rl_yes rfl rfl ?_
      | refine rl_no rfl rfl rfl (by decide) ?_
      | refine rl_step (by decide) (op_pick_t rfl rfl ?_)
      | refine rl_step (by decide) (op_pick_f rfl rfl ?_)
      | refine rl_step (by decide) (op_lss rfl rfl ?_)
      | refine rl_step (by decide) (op_leq rfl rfl ?_)
      | refine rl_step (by decide) (op_gtr rfl rfl ?_)
      | refine rl_step (by decide) (op_geq rfl rfl ?_)
      | refine rl_step (by decide) (op_eql rfl rfl ?_)
      | refine rl_step (by decide) (op_neq rfl rfl ?_)
      | refine rl_step (by decide) (op_not rfl ?_)
      | refine rl_step (by decide) (op_min rfl rfl ?_)
      | refine rl_step (by decide) (op_max rfl rfl ?_)
      | refine rl_step (by decide) (op_extract rfl rfl ?_)
      | refine rl_step (by decide) (op_add rfl rfl (by omega) ?_)
      | refine rl_step (by decide) (op_sub rfl rfl (by omega) ?_)
      | refine rl_step (by decide) (op_neg rfl (by omega) ?_)))
  refine rl_step (by decide) (op_load teP rfl he ?_)
  clear he
  intro u7 hu7
  (repeat (first
      | refine run_seq ?_
      | refine run_region_l ?_
      | refine rl_nil ?_
      | refine rl_step (by decide) (op_move rfl ?_)
      | refine rl_step (by decide) (op_assign rfl ?_)
      | refine run_block ?_
      | refine run_inBlock ?_
      | refine run_exit rfl ?_
      | refine run_skip ?_
      | refine run_label ?_
      | refine run_true rfl ?_
      | refine run_false rfl ?_
      | refine rl_yes rfl rfl ?_
      | refine rl_no rfl rfl rfl (by decide) ?_
      | refine rl_step (by decide) (op_pick_t rfl rfl ?_)
      | refine rl_step (by decide) (op_pick_f rfl rfl ?_)
      | refine rl_step (by decide) (op_lss rfl rfl ?_)
      | refine rl_step (by decide) (op_leq rfl rfl ?_)
      | refine rl_step (by decide) (op_gtr rfl rfl ?_)
      | refine rl_step (by decide) (op_geq rfl rfl ?_)
      | refine rl_step (by decide) (op_eql rfl rfl ?_)
      | refine rl_step (by decide) (op_neq rfl rfl ?_)
      | refine rl_step (by decide) (op_not rfl ?_)
      | refine rl_step (by decide) (op_min rfl rfl ?_)
      | refine rl_step (by decide) (op_max rfl rfl ?_)
      | refine rl_step (by decide) (op_extract rfl rfl ?_)
      | refine rl_step (by decide) (op_add rfl rfl (by omega) ?_)
      | refine rl_step (by decide) (op_sub rfl rfl (by omega) ?_)
      | refine rl_step (by decide) (op_neg rfl (by omega) ?_)))
  refine rl_step (by decide) (op_call ent53 rfl (shape_c M _ _ _ 12 12 5 6 hr.mb hu7 (by omega) (by omega) (by omega) (by omega) rfl rfl rfl rfl) ?_)
  rintro _ w_ ⟨rfl, hbel⟩
  clear hu7
  have hs := UpM.of_below (M := M) hbel
  replace hp1 := hp1.mono hs.x
  replace hp2 := hp2.mono hs.x
  replace hr := hr.up hs
  clear hs hbel
  (repeat (first
      | refine run_seq ?_
      | refine run_region_l ?_
      | refine rl_nil ?_
      | refine rl_step (by decide) (op_move rfl ?_)
      | refine rl_step (by decide) (op_assign rfl ?_)
      | refine run_block ?_
      | refine run_inBlock ?_
      | refine run_exit rfl ?_
      | refine run_skip ?_
      | refine run_label ?_
      | refine run_true rfl ?_
      | refine run_false rfl ?_
      | refine rl_yes rfl rfl ?_
      | refine rl_no rfl rfl rfl (by decide) ?_
      | refine rl_step (by decide) (op_pick_t rfl rfl ?_)
      | refine rl_step (by decide) (op_pick_f rfl rfl ?_)
      | refine rl_step (by decide) (op_lss rfl rfl ?_)
      | refine rl_step (by decide) (op_leq rfl rfl ?_)
      | refine rl_step (by decide) (op_gtr rfl rfl ?_)
      | refine rl_step (by decide) (op_geq rfl rfl ?_)
      | refine rl_step (by decide) (op_eql rfl rfl ?_)
      | refine rl_step (by decide) (op_neq rfl rfl ?_)
      | refine rl_step (by decide) (op_not rfl ?_)
      | refine rl_step (by decide) (op_min rfl rfl ?_)
      | refine rl_step (by decide) (op_max rfl rfl ?_)
      | refine rl_step (by decide) (op_extract rfl rfl ?_)
      | refine rl_step (by decide) (op_add rfl rfl (by omega) ?_)
      | refine rl_step (by decide) (op_sub rfl rfl (by omega) ?_)
      | refine rl_step (by decide) (op_neg rfl (by omega) ?_)))
  refine rl_step (by decide) (op_indexAddr uP teP rfl rfl hp2 ⟨by decide, by decide⟩ ?_)
  intro ad _ he
  (repeat (first
      | refine run_seq ?_
      | refine run_region_l ?_
      | refine rl_nil ?_
      | refine rl_step (by decide) (op_move rfl ?_)
      | refine rl_step (by decide) (op_assign rfl ?_)
      | refine run_block ?_
      | refine run_inBlock ?_
      | refine run_exit rfl ?_
      | refine run_skip ?_
      | refine run_label ?_
      | refine run_true rfl ?_
      | refine run_false rfl ?_
      | refine rl_yes rfl rfl ?_
      | refine rl_no rfl rfl rfl (by decide) ?_
      | refine rl_step (by decide) (op_pick_t rfl rfl ?_)
      | refine rl_step (by decide) (op_pick_f rfl rfl ?_)
      | refine rl_step (by decide) (op_lss rfl rfl ?_)
      | refine rl_step (by decide) (op_leq rfl rfl ?_)
      | refine rl_step (by decide) (op_gtr rfl rfl ?_)
      | refine rl_step (by decide) (op_geq rfl rfl ?_)
      | refine rl_step (by decide) (op_eql rfl rfl ?_)
      | refine rl_step (by decide) (op_neq rfl rfl ?_)
      | refine rl_step (by decide) (op_not rfl ?_)
      | refine rl_step (by decide) (op_min rfl rfl ?_)
      | refine rl_step (by decide) (op_max rfl rfl ?_)
      | refine rl_step (by decide) (op_extract rfl rfl ?_)
      | refine rl_step (by decide) (op_add rfl rfl (by omega) ?_)
      | refine rl_step (by decide) (op_sub rfl rfl (by omega) ?_)
      | refine rl_step (by decide) (op_neg rfl (by omega) ?_)))
  refine rl_step (by decide) (op_load teP rfl he ?_)
  clear he
  intro u8 hu8
  (repeat (first
      | refine run_seq ?_
      | refine run_region_l ?_
      | refine rl_nil ?_
      | refine rl_step (by decide) (op_move rfl ?_)
      | refine rl_step (by decide) (op_assign rfl ?_)
      | refine run_block ?_
      | refine run_inBlock ?_
      | refine run_exit rfl ?_
      | refine run_skip ?_
      | refine run_label ?_
      | refine run_true rfl ?_
      | refine run_false rfl ?_
      | refine rl_yes rfl rfl ?_
      | refine rl_no rfl rfl rfl (by decide) ?_
      | refine rl_step (by decide) (op_pick_t rfl rfl ?_)
      | refine rl_step (by decide) (op_pick_f rfl rfl ?_)
      | refine rl_step (by decide) (op_lss rfl rfl ?_)
      | refine rl_step (by decide) (op_leq rfl rfl ?_)
      | refine rl_step (by decide) (op_gtr rfl rfl ?_)
      | refine rl_step (by decide) (op_geq rfl rfl ?_)
      | refine rl_step (by decide) (op_eql rfl rfl ?_)
      | refine rl_step (by decide) (op_neq rfl rfl ?_)
      | refine rl_step (by decide) (op_not rfl ?_)
      | refine rl_step (by decide) (op_min rfl rfl ?_)
      | refine rl_step (by decide) (op_max rfl rfl ?_)
      | refine rl_step (by decide) (op_extract rfl rfl ?_)
      | refine rl_step (by decide) (op_add rfl rfl (by omega) ?_)
      | refine rl_step (by decide) (op_sub rfl rfl (by omega) ?_)
      | refine rl_step (by decide) (op_neg rfl (by omega) ?_)))
  refine rl_step (by decide) (op_call ent53 rfl (shape_c M _ _ _ 13 14 1 0 hr.mb hu8 (by omega) (by omega) (by omega) (by omega) rfl rfl rfl rfl) ?_)
  rintro _ w_ ⟨rfl, hbel⟩
  clear hu8
  have hs := UpM.of_below (M := M) hbel
  replace hp1 := hp1.mono hs.x
  replace hp2 := hp2.mono hs.x
  replace hr := hr.up hs
  clear hs hbel
  (repeat (first
      | refine run_seq ?_
      | refine run_region_l ?_
      | refine rl_nil ?_
      | refine rl_step (by decide) (op_move rfl ?_)
      | refine rl_step (by decide) (op_assign rfl ?_)
      | refine run_block ?_
      | refine run_inBlock ?_
      | refine run_exit rfl ?_
      | refine run_skip ?_
      | refine run_label ?_
      | refine run_true rfl ?_
      | refine run_false rfl ?_
      | refine rl_yes rfl rfl ?_
      | refine rl_no rfl rfl rfl (by decide) ?_
      | refine rl_step (by decide) (op_pick_t rfl rfl ?_)
      | refine rl_step (by decide) (op_pick_f rfl rfl ?_)
      | refine rl_step (by decide) (op_lss rfl rfl ?_)
      | refine rl_step (by decide) (op_leq rfl rfl ?_)
      | refine rl_step (by decide) (op_gtr rfl rfl ?_)
      | refine rl_step (by decide) (op_geq rfl rfl ?_)
      | refine rl_step (by decide) (op_eql rfl rfl ?_)
      | refine rl_step (by decide) (op_neq rfl rfl ?_)
      | refine rl_step (by decide) (op_not rfl ?_)
      | refine rl_step (by decide) (op_min rfl rfl ?_)
      | refine rl_step (by decide) (op_max rfl rfl ?_)
      | refine rl_step (by decide) (op_extract rfl rfl ?_)
      | refine rl_step (by decide) (op_add rfl rfl (by omega) ?_)
      | refine rl_step (by decide) (op_sub rfl rfl (by omega) ?_)
      | refine rl_step (by decide) (op_neg rfl (by omega) ?_)))
  refine run_ret1 Try.func22 rfl rfl ?_
  exact ⟨rfl, hr.bel⟩

end Go.Proofs.Ytocoinkhbjlbhaa
