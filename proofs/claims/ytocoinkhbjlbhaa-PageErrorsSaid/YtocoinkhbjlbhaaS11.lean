/-
  Walk: the law of the order of lines.
-/
import Derived.Test.YtocoinkhbjlbhaaS10
import Derived.Test.YtocoinkhbjlbhaaP27
namespace Go.Proofs.Ytocoinkhbjlbhaa
open Go Go.RowKit

/-- page.Set of a body and notes made from numbers, at a height that is allowed. -/
theorem set_ok (M : Mut) (vb vn : Value) (body : List Line) (notes : List (List Line)) (h : Int) (w : World) (hm : MB M w) (hb : SlOf eLine M w vb body) (hn : SlOf (eSl eLine) M w vn notes) (hO : OKB body notes) (hh : 4 ≤ h ∧ h ≤ 100) :
    CallsV Try.prog 18 [vb, vn, .int .i64 h] w (fun u w' => Below w.heap.size w w' ∧ ∃ vp, u = .tuple #[vp, .int .i64 0] ∧ SlOf ePg M w' vp (setAll h body notes)) :=
  set_val M vb vn body notes h 0 _ w hm hb hn (by unfold I64; omega) ⟨by have := hO.lb; omega, by have := ok_sum hO; omega⟩ (ok_chk hO hh) (by rw [if_pos rfl])

theorem p_len {M : Mut} {w : World} {v : Value} {l : List Pg} (h : SlOf ePg M w v l) : (l.length : Int) ≤ 2199023255552 := by
  have := h.bytes
  have e : ePg.by_ = 80 := rfl
  rw [e] at this
  omega

set_option maxHeartbeats 2000000 in
theorem order_w (M : Mut) (w : World) (vl : Value) (l : List Int) (n : Int) (hm : MB M w) (hl : SlBg M w vl l) (hI : I64 n) :
    CallsV Try.prog 6 [vl, .int .i64 n] w (fun u w' => u = .bool true ∧ Below w.heap.size w w') := by
  have hr := Rn.refl hm
  have ba := aro_bd n 97 (by omega)
  refine callsV_of_run Try.func6 rfl Try.ntmps6 (Nat.le_of_ble_eq_true rfl) ?_
  (repeat (first
      | refine run_seq ?_
      | refine run_region_l ?_
      | refine rl_nil ?_
      | refine rl_step (by decide) (op_move rfl ?_)
      | refine rl_step (by decide) (op_assign rfl ?_)
      | refine run_block ?_
      | refine run_inBlock ?_
      | refine run_exit rfl ?_
      | refine run_skip ?_
      | refine run_label ?_
      | refine run_true rfl ?_
      | refine run_false rfl ?_
      | refine rl_yes rfl rfl ?_
      | refine rl_no rfl rfl rfl (by decide) ?_
      | refine rl_step (by decide) (op_pick_t rfl rfl ?_)
      | refine rl_step (by decide) (op_pick_f rfl rfl ?_)
      | refine rl_step (by decide) (op_lss rfl rfl ?_)
      | refine rl_step (by decide) (op_leq rfl rfl ?_)
      | refine rl_step (by decide) (op_gtr rfl rfl ?_)
      | refine rl_step (by decide) (op_geq rfl rfl ?_)
      | refine rl_step (by decide) (op_eql rfl rfl ?_)
      | refine rl_step (by decide) (op_neq rfl rfl ?_)
      | refine rl_step (by decide) (op_not rfl ?_)
      | refine rl_step (by decide) (op_min rfl rfl ?_)
      | refine rl_step (by decide) (op_max rfl rfl ?_)
      | refine rl_step (by decide) (op_extract rfl rfl ?_)
      | refine rl_step (by decide) (op_add rfl rfl (by omega) ?_)
      | refine rl_step (by decide) (op_sub rfl rfl (by omega) ?_)
      | refine rl_step (by decide) (op_neg rfl (by omega) ?_)))
  refine rl_step (by decide) (op_call ent17 rfl (linesG M _ _ _ hm hl) ?_)
  rintro _ w1 ⟨hbel, vb, vn, body, notes, rfl, hb, hn, hO⟩
  have hs := UpM.of_below (M := M) hbel
  replace hr := hr.up hs
  clear hs hbel
  (repeat (first
      | refine run_seq ?_
      | refine run_region_l ?_
      | refine rl_nil ?_
      | refine rl_step (by decide) (op_move rfl ?_)
      | refine rl_step (by decide) (op_assign rfl ?_)
      | refine run_block ?_
      | refine run_inBlock ?_
      | refine run_exit rfl ?_
      | refine run_skip ?_
      | refine run_label ?_
      | refine run_true rfl ?_
      | refine run_false rfl ?_
      | refine rl_yes rfl rfl ?_
      | refine rl_no rfl rfl rfl (by decide) ?_
      | refine rl_step (by decide) (op_pick_t rfl rfl ?_)
      | refine rl_step (by decide) (op_pick_f rfl rfl ?_)
      | refine rl_step (by decide) (op_lss rfl rfl ?_)
      | refine rl_step (by decide) (op_leq rfl rfl ?_)
      | refine rl_step (by decide) (op_gtr rfl rfl ?_)
      | refine rl_step (by decide) (op_geq rfl rfl ?_)
      | refine rl_step (by decide) (op_eql rfl rfl ?_)
      | refine rl_step (by decide) (op_neq rfl rfl ?_)
      | refine rl_step (by decide) (op_not rfl ?_)
      | refine rl_step (by decide) (op_min rfl rfl ?_)
      | refine rl_step (by decide) (op_max rfl rfl ?_)
      | refine rl_step (by decide) (op_extract rfl rfl ?_)
      | refine rl_step (by decide) (op_add rfl rfl (by omega) ?_)
      | refine rl_step (by decide) (op_sub rfl rfl (by omega) ?_)
      | refine rl_step (by decide) (op_neg rfl (by omega) ?_)))
  refine rl_step (by decide) (op_call ent19 rfl (height_c _ _ hI) ?_)
  rintro _ w2 ⟨rfl, rfl⟩
  (repeat (first
      | refine run_seq ?_
      | refine run_region_l ?_
      | refine rl_nil ?_
      | refine rl_step (by decide) (op_move rfl ?_)
      | refine rl_step (by decide) (op_assign rfl ?_)
      | refine run_block ?_
      | refine run_inBlock ?_
      | refine run_exit rfl ?_
      | refine run_skip ?_
      | refine run_label ?_
      | refine run_true rfl ?_
      | refine run_false rfl ?_
      | refine rl_yes rfl rfl ?_
      | refine rl_no rfl rfl rfl (by decide) ?_
      | refine rl_step (by decide) (op_pick_t rfl rfl ?_)
      | refine rl_step (by decide) (op_pick_f rfl rfl ?_)
      | refine rl_step (by decide) (op_lss rfl rfl ?_)
      | refine rl_step (by decide) (op_leq rfl rfl ?_)
      | refine rl_step (by decide) (op_gtr rfl rfl ?_)
      | refine rl_step (by decide) (op_geq rfl rfl ?_)
      | refine rl_step (by decide) (op_eql rfl rfl ?_)
      | refine rl_step (by decide) (op_neq rfl rfl ?_)
      | refine rl_step (by decide) (op_not rfl ?_)
      | refine rl_step (by decide) (op_min rfl rfl ?_)
      | refine rl_step (by decide) (op_max rfl rfl ?_)
      | refine rl_step (by decide) (op_extract rfl rfl ?_)
      | refine rl_step (by decide) (op_add rfl rfl (by omega) ?_)
      | refine rl_step (by decide) (op_sub rfl rfl (by omega) ?_)
      | refine rl_step (by decide) (op_neg rfl (by omega) ?_)))
  refine rl_step (by decide) (op_call ent18 rfl (set_ok M _ _ _ _ _ _ hr.mb hb hn hO (by omega)) ?_)
  rintro _ w3 ⟨hbel, vp, rfl, hp⟩
  have hs := UpM.of_below (M := M) hbel
  replace hr := hr.up hs
  replace hb := hb.mono hs.x
  replace hn := hn.mono hs.x
  clear hs hbel
  obtain ⟨o1, o2, o3, o4⟩ := set_order (4 + aro n 97) (by omega) notes (body.length + sumR notes body + 1) body [] (by simp)
  have hsum := ok_sum hO
  have hlb := hO.lb
  have hln := hO.ln
  rw [show setM (4 + aro n 97) notes (body.length + sumR notes body + 1) body [] = setAll (4 + aro n 97) body notes from rfl] at o1 o2 o3 o4
  rw [notes_all hO, List.nil_append] at o2
  have hfl : notes.flatten.length ≤ 1080 := by rw [← notes_all hO]; exact hsum
  generalize setAll (4 + aro n 97) body notes = ps at hp o1 o2 o3 o4
  simp only [List.length_nil] at o3
  (repeat (first
      | refine run_seq ?_
      | refine run_region_l ?_
      | refine rl_nil ?_
      | refine rl_step (by decide) (op_move rfl ?_)
      | refine rl_step (by decide) (op_assign rfl ?_)
      | refine run_block ?_
      | refine run_inBlock ?_
      | refine run_exit rfl ?_
      | refine run_skip ?_
      | refine run_label ?_
      | refine run_true rfl ?_
      | refine run_false rfl ?_
      | refine rl_yes rfl rfl ?_
      | refine rl_no rfl rfl rfl (by decide) ?_
      | refine rl_step (by decide) (op_pick_t rfl rfl ?_)
      | refine rl_step (by decide) (op_pick_f rfl rfl ?_)
      | refine rl_step (by decide) (op_lss rfl rfl ?_)
      | refine rl_step (by decide) (op_leq rfl rfl ?_)
      | refine rl_step (by decide) (op_gtr rfl rfl ?_)
      | refine rl_step (by decide) (op_geq rfl rfl ?_)
      | refine rl_step (by decide) (op_eql rfl rfl ?_)
      | refine rl_step (by decide) (op_neq rfl rfl ?_)
      | refine rl_step (by decide) (op_not rfl ?_)
      | refine rl_step (by decide) (op_min rfl rfl ?_)
      | refine rl_step (by decide) (op_max rfl rfl ?_)
      | refine rl_step (by decide) (op_extract rfl rfl ?_)
      | refine rl_step (by decide) (op_add rfl rfl (by omega) ?_)
      | refine rl_step (by decide) (op_sub rfl rfl (by omega) ?_)
      | refine rl_step (by decide) (op_neg rfl (by omega) ?_)))
  refine (run_loop (α := Nat × Value × Value × Mut) (fun x => [(1, .int .i64 n), (5, vb), (6, vn), (7, vp), (9, x.2.1), (10, x.2.2.1), (11, .slice none 0 0), (12, .int .i64 x.1)])
    (fun x w' => x.1 ≤ ps.length ∧ Rn M w x.2.2.2 w' ∧ SlOf eLine x.2.2.2 w' vb body ∧ SlOf (eSl eLine) x.2.2.2 w' vn notes ∧ SlOf ePg x.2.2.2 w' vp ps ∧ SlOf eLine x.2.2.2 w' x.2.1 ((ps.take x.1).flatMap (·.body)) ∧ Grow w.heap.size x.2.2.2 w' x.2.1 ((ps.take x.1).flatMap (·.body)).length 4 1 47 ∧
      SlOf eLine x.2.2.2 w' x.2.2.1 ((ps.take x.1).flatMap (·.notes)) ∧ Grow w.heap.size x.2.2.2 w' x.2.2.1 ((ps.take x.1).flatMap (·.notes)).length 4 2 47) (fun x => ps.length - x.1) (0, .slice none 0 0, .slice none 0 0, M)
    ⟨Nat.zero_le _, hr, hb, hn, hp, SlOf.nil _ _ _, Grow.nil, SlOf.nil _ _ _, Grow.nil⟩ ?_).sub (by repeat (first | exact trivial | refine ⟨rfl, ?_⟩))
  clear hr hb hn hp hl
  rintro ⟨i, vx, vy, M1⟩ w4 ⟨hi, hr, hb, hn, hp, hx, hgx, hy, hgy⟩ ih
  simp only at hi hr hb hn hp hx hgx hy hgy ih
  try dsimp only
  have f1 := flat_take_le (fun p : Pg => p.body) ps i
  have f2 := flat_take_le (fun p : Pg => p.notes) ps i
  rw [o1] at f1
  rw [o2] at f2
  (repeat (first
      | refine run_seq ?_
      | refine run_region_l ?_
      | refine rl_nil ?_
      | refine rl_step (by decide) (op_move rfl ?_)
      | refine rl_step (by decide) (op_assign rfl ?_)
      | refine run_block ?_
      | refine run_inBlock ?_
      | refine run_exit rfl ?_
      | refine run_skip ?_
      | refine run_label ?_
      | refine run_true rfl ?_
      | refine run_false rfl ?_
      | refine rl_yes rfl rfl ?_
      | refine rl_no rfl rfl rfl (by decide) ?_
      | refine rl_step (by decide) (op_pick_t rfl rfl ?_)
      | refine rl_step (by decide) (op_pick_f rfl rfl ?_)
      | refine rl_step (by decide) (op_lss rfl rfl ?_)
      | refine rl_step (by decide) (op_leq rfl rfl ?_)
      | refine rl_step (by decide) (op_gtr rfl rfl ?_)
      | refine rl_step (by decide) (op_geq rfl rfl ?_)
      | refine rl_step (by decide) (op_eql rfl rfl ?_)
      | refine rl_step (by decide) (op_neq rfl rfl ?_)
      | refine rl_step (by decide) (op_not rfl ?_)
      | refine rl_step (by decide) (op_min rfl rfl ?_)
      | refine rl_step (by decide) (op_max rfl rfl ?_)
      | refine rl_step (by decide) (op_extract rfl rfl ?_)
      | refine rl_step (by decide) (op_add rfl rfl (by omega) ?_)
      | refine rl_step (by decide) (op_sub rfl rfl (by omega) ?_)
      | refine rl_step (by decide) (op_neg rfl (by omega) ?_)))
  refine rl_step (by decide) (op_len uP rfl hp ?_)
  (repeat (first
      | refine run_seq ?_
      | refine run_region_l ?_
      | refine rl_nil ?_
      | refine rl_step (by decide) (op_move rfl ?_)
      | refine rl_step (by decide) (op_assign rfl ?_)
      | refine run_block ?_
      | refine run_inBlock ?_
      | refine run_exit rfl ?_
      | refine run_skip ?_
      | refine run_label ?_
      | refine run_true rfl ?_
      | refine run_false rfl ?_
      | refine rl_yes rfl rfl ?_
      | refine rl_no rfl rfl rfl (by decide) ?_
      | refine rl_step (by decide) (op_pick_t rfl rfl ?_)
      | refine rl_step (by decide) (op_pick_f rfl rfl ?_)
      | refine rl_step (by decide) (op_lss rfl rfl ?_)
      | refine rl_step (by decide) (op_leq rfl rfl ?_)
      | refine rl_step (by decide) (op_gtr rfl rfl ?_)
      | refine rl_step (by decide) (op_geq rfl rfl ?_)
      | refine rl_step (by decide) (op_eql rfl rfl ?_)
      | refine rl_step (by decide) (op_neq rfl rfl ?_)
      | refine rl_step (by decide) (op_not rfl ?_)
      | refine rl_step (by decide) (op_min rfl rfl ?_)
      | refine rl_step (by decide) (op_max rfl rfl ?_)
      | refine rl_step (by decide) (op_extract rfl rfl ?_)
      | refine rl_step (by decide) (op_add rfl rfl (by omega) ?_)
      | refine rl_step (by decide) (op_sub rfl rfl (by omega) ?_)
      | refine rl_step (by decide) (op_neg rfl (by omega) ?_)))
  refine run_if rfl (fun hlt => ?_) (fun hlt => ?_)
  · have hlt' : i < ps.length := by omega
    have hu := o4 ps[i] (List.getElem_mem hlt')
    have g1 := flat_take_le (fun p : Pg => p.body) ps (i + 1)
    have g2 := flat_take_le (fun p : Pg => p.notes) ps (i + 1)
    rw [o1, flat_take _ _ _ hlt', List.length_append] at g1
    rw [o2, flat_take _ _ _ hlt', List.length_append] at g2
    have hroom : max (4 + aro n 97 - ps[i].body.length - ps[i].notes.length - min (ps[i].notes.length : Int) 1) 0 = 4 + aro n 97 - usedM ps[i] := by
      unfold usedM at hu ⊢
      omega
    (repeat (first
        | refine run_seq ?_
        | refine run_region_l ?_
        | refine rl_nil ?_
        | refine rl_step (by decide) (op_move rfl ?_)
        | refine rl_step (by decide) (op_assign rfl ?_)
        | refine run_block ?_
        | refine run_inBlock ?_
        | refine run_exit rfl ?_
        | refine run_skip ?_
        | refine run_label ?_
        | refine run_true rfl ?_
        | refine run_false rfl ?_
        | refine rl_yes rfl rfl ?_
        | refine rl_no rfl rfl rfl (by decide) ?_
        | refine rl_step (by decide) (op_pick_t rfl rfl ?_)
        | refine rl_step (by decide) (op_pick_f rfl rfl ?_)
        | refine rl_step (by decide) (op_lss rfl rfl ?_)
        | refine rl_step (by decide) (op_leq rfl rfl ?_)
        | refine rl_step (by decide) (op_gtr rfl rfl ?_)
        | refine rl_step (by decide) (op_geq rfl rfl ?_)
        | refine rl_step (by decide) (op_eql rfl rfl ?_)
        | refine rl_step (by decide) (op_neq rfl rfl ?_)
        | refine rl_step (by decide) (op_not rfl ?_)
        | refine rl_step (by decide) (op_min rfl rfl ?_)
        | refine rl_step (by decide) (op_max rfl rfl ?_)
        | refine rl_step (by decide) (op_extract rfl rfl ?_)
        | refine rl_step (by decide) (op_add rfl rfl (by omega) ?_)
        | refine rl_step (by decide) (op_sub rfl rfl (by omega) ?_)
        | refine rl_step (by decide) (op_neg rfl (by omega) ?_)))
    refine region_dr (M := M1) 21 1 [] mixed rfl (by kernel_rfl) (fun w1 hs1 => ?_)
    replace hb := hb.mono hs1.x
    replace hn := hn.mono hs1.x
    replace hp := hp.mono hs1.x
    replace hx := hx.mono hs1.x
    replace hy := hy.mono hs1.x
    replace hr := hr.up hs1
    replace hgx := hgx.up hs1
    replace hgy := hgy.up hs1
    clear hs1
    refine dr_cons (isv vp) (by decide) (mono_isv _) (ob0 rfl fun M w' hs2 => ?_) ?_
    · exact opg (op_move rfl ⟨_, UpM.refl _ _, rfl⟩)
    refine dr_cons (isv (.int .i64 i)) (by decide) (mono_isv _) (ob0 rfl fun M w' hs2 => ?_) ?_
    · exact opg (op_move rfl ⟨_, UpM.refl _ _, rfl⟩)
    refine dr_cons (isPtr ePg ps[i]) (by decide) (mono_isPtr _ _) (ob2 rfl fun M w' hs2 v1 k1 v2 k2 => ?_) ?_
    · cases k1; cases k2; exact opg (op_indexAddr uP teP rfl rfl (hp.mono hs2.x) (by omega) fun ad hn he => ⟨_, UpM.refl _ _, ad, rfl, he⟩)
    refine dr_cons (isPtr (eSl eLine) ps[i].body) (by decide) (mono_isPtr _ _) (ob1 rfl fun M w' hs2 v1 k1 => ?_) ?_
    · obtain ⟨ad1, rfl, he1⟩ := k1; exact opg (op_fieldAddr fdP3 rfl ⟨_, UpM.refl _ _, _, rfl, he1.pg.2.1⟩)
    refine dr_cons (isSl eLine ps[i].body) (by decide) (mono_isSl _ _) (ob1 rfl fun M w' hs2 v1 k1 => ?_) ?_
    · obtain ⟨ad1, rfl, he1⟩ := k1; exact opg (op_load teSL rfl he1 fun u hu => ⟨_, UpM.refl _ _, eSl_V.1 hu⟩)
    refine dr_cons (isv (.int .i64 ((ps[i].body.length : Int)))) (by decide) (mono_isv _) (ob1 rfl fun M w' hs2 v1 k1 => ?_) ?_
    · exact opg (op_len uL rfl k1 ⟨_, UpM.refl _ _, rfl⟩)
    refine dr_cons (isv vp) (by decide) (mono_isv _) (ob0 rfl fun M w' hs2 => ?_) ?_
    · exact opg (op_move rfl ⟨_, UpM.refl _ _, rfl⟩)
    refine dr_cons (isv (.int .i64 i)) (by decide) (mono_isv _) (ob0 rfl fun M w' hs2 => ?_) ?_
    · exact opg (op_move rfl ⟨_, UpM.refl _ _, rfl⟩)
    refine dr_cons (isPtr ePg ps[i]) (by decide) (mono_isPtr _ _) (ob2 rfl fun M w' hs2 v1 k1 v2 k2 => ?_) ?_
    · cases k1; cases k2; exact opg (op_indexAddr uP teP rfl rfl (hp.mono hs2.x) (by omega) fun ad hn he => ⟨_, UpM.refl _ _, ad, rfl, he⟩)
    refine dr_cons (isPtr (eSl eLine) ps[i].notes) (by decide) (mono_isPtr _ _) (ob1 rfl fun M w' hs2 v1 k1 => ?_) ?_
    · obtain ⟨ad1, rfl, he1⟩ := k1; exact opg (op_fieldAddr fdP4 rfl ⟨_, UpM.refl _ _, _, rfl, he1.pg.2.2⟩)
    refine dr_cons (isSl eLine ps[i].notes) (by decide) (mono_isSl _ _) (ob1 rfl fun M w' hs2 v1 k1 => ?_) ?_
    · obtain ⟨ad1, rfl, he1⟩ := k1; exact opg (op_load teSL rfl he1 fun u hu => ⟨_, UpM.refl _ _, eSl_V.1 hu⟩)
    refine dr_cons (isv (.int .i64 ((ps[i].notes.length : Int)))) (by decide) (mono_isv _) (ob1 rfl fun M w' hs2 v1 k1 => ?_) ?_
    · exact opg (op_len uL rfl k1 ⟨_, UpM.refl _ _, rfl⟩)
    refine dr_cons (isv (.int .i64 ((((ps[i].body.length : Int)) + ((ps[i].notes.length : Int)))))) (by decide) (mono_isv _) (ob2 rfl fun M w' hs2 v1 k1 v2 k2 => ?_) ?_
    · cases k1; cases k2; exact opg (op_add rfl rfl (by omega) ⟨_, UpM.refl _ _, rfl⟩)
    refine dr_cons (isv vp) (by decide) (mono_isv _) (ob0 rfl fun M w' hs2 => ?_) ?_
    · exact opg (op_move rfl ⟨_, UpM.refl _ _, rfl⟩)
    refine dr_cons (isv (.int .i64 i)) (by decide) (mono_isv _) (ob0 rfl fun M w' hs2 => ?_) ?_
    · exact opg (op_move rfl ⟨_, UpM.refl _ _, rfl⟩)
    refine dr_cons (isPtr ePg ps[i]) (by decide) (mono_isPtr _ _) (ob2 rfl fun M w' hs2 v1 k1 v2 k2 => ?_) ?_
    · cases k1; cases k2; exact opg (op_indexAddr uP teP rfl rfl (hp.mono hs2.x) (by omega) fun ad hn he => ⟨_, UpM.refl _ _, ad, rfl, he⟩)
    refine dr_cons (isPtr (eSl eLine) ps[i].notes) (by decide) (mono_isPtr _ _) (ob1 rfl fun M w' hs2 v1 k1 => ?_) ?_
    · obtain ⟨ad1, rfl, he1⟩ := k1; exact opg (op_fieldAddr fdP4 rfl ⟨_, UpM.refl _ _, _, rfl, he1.pg.2.2⟩)
    refine dr_cons (isSl eLine ps[i].notes) (by decide) (mono_isSl _ _) (ob1 rfl fun M w' hs2 v1 k1 => ?_) ?_
    · obtain ⟨ad1, rfl, he1⟩ := k1; exact opg (op_load teSL rfl he1 fun u hu => ⟨_, UpM.refl _ _, eSl_V.1 hu⟩)
    refine dr_cons (isv (.int .i64 ((ps[i].notes.length : Int)))) (by decide) (mono_isv _) (ob1 rfl fun M w' hs2 v1 k1 => ?_) ?_
    · exact opg (op_len uL rfl k1 ⟨_, UpM.refl _ _, rfl⟩)
    refine dr_cons (isv (.int .i64 ((min ((ps[i].notes.length : Int)) 1 : Int)))) (by decide) (mono_isv _) (ob1 rfl fun M w' hs2 v1 k1 => ?_) ?_
    · cases k1; exact opg (op_min rfl rfl ⟨_, UpM.refl _ _, rfl⟩)
    refine dr_cons (isv (.int .i64 ((((((ps[i].body.length : Int)) + ((ps[i].notes.length : Int)))) + ((min ((ps[i].notes.length : Int)) 1 : Int)))))) (by decide) (mono_isv _) (ob2 rfl fun M w' hs2 v1 k1 v2 k2 => ?_) ?_
    · cases k1; cases k2; exact opg (op_add rfl rfl (by omega) ⟨_, UpM.refl _ _, rfl⟩)
    refine dr_nil rfl (fun M3 w5 val hs2 hall => ?_)
    obtain ⟨h56, _⟩ := hall
    have e56 : val 56 = _ := h56
    replace hb := hb.mono hs2.x
    replace hn := hn.mono hs2.x
    replace hp := hp.mono hs2.x
    replace hx := hx.mono hs2.x
    replace hy := hy.mono hs2.x
    replace hr := hr.up hs2
    replace hgx := hgx.up hs2
    replace hgy := hgy.up hs2
    refine RT.sub (fr' := [(1, .int .i64 n), (5, vb), (6, vn), (7, vp), (9, vx), (10, vy), (11, .slice none 0 0), (12, .int .i64 i), (56, val 56)]) ?_ (by repeat (first | exact trivial | refine ⟨rfl, ?_⟩))
    rw [e56]
    clear hs2 h56 e56
    refine rt_one (i := 21) (by kernel_rfl) rfl (by decide) (op_assign rfl ?_)
    refine rt_nil (by kernel_rfl) ?_
    refine Run.sub (fr' := [(1, .int .i64 n), (5, vb), (6, vn), (7, vp), (9, vx), (10, vy), (11, .slice none 0 0), (12, .int .i64 i), (13, .int .i64 (usedM ps[i]))]) ?_ (by repeat (first | exact trivial | refine ⟨rfl, ?_⟩))
    (repeat (first
        | refine run_seq ?_
        | refine run_region_l ?_
        | refine rl_nil ?_
        | refine rl_step (by decide) (op_move rfl ?_)
        | refine rl_step (by decide) (op_assign rfl ?_)
        | refine run_block ?_
        | refine run_inBlock ?_
        | refine run_exit rfl ?_
        | refine run_skip ?_
        | refine run_label ?_
        | refine run_true rfl ?_
        | refine run_false rfl ?_
        | refine rl_yes rfl rfl ?_
        | refine rl_no rfl rfl rfl (by decide) ?_
        | refine rl_step (by decide) (op_pick_t rfl rfl ?_)
        | refine rl_step (by decide) (op_pick_f rfl rfl ?_)
        | refine rl_step (by decide) (op_lss rfl rfl ?_)
        | refine rl_step (by decide) (op_leq rfl rfl ?_)
        | refine rl_step (by decide) (op_gtr rfl rfl ?_)
        | refine rl_step (by decide) (op_geq rfl rfl ?_)
        | refine rl_step (by decide) (op_eql rfl rfl ?_)
        | refine rl_step (by decide) (op_neq rfl rfl ?_)
        | refine rl_step (by decide) (op_not rfl ?_)
        | refine rl_step (by decide) (op_min rfl rfl ?_)
        | refine rl_step (by decide) (op_max rfl rfl ?_)
        | refine rl_step (by decide) (op_extract rfl rfl ?_)
        | refine rl_step (by decide) (op_add rfl rfl (by omega) ?_)
        | refine rl_step (by decide) (op_sub rfl rfl (by omega) ?_)
        | refine rl_step (by decide) (op_neg rfl (by omega) ?_)))
    refine region_dr (M := M3) 21 1 [] mixed rfl (by kernel_rfl) (fun w1 hs1 => ?_)
    replace hb := hb.mono hs1.x
    replace hn := hn.mono hs1.x
    replace hp := hp.mono hs1.x
    replace hx := hx.mono hs1.x
    replace hy := hy.mono hs1.x
    replace hr := hr.up hs1
    replace hgx := hgx.up hs1
    replace hgy := hgy.up hs1
    clear hs1
    refine dr_cons (isv (.int .i64 ((usedM ps[i])))) (by decide) (mono_isv _) (ob0 rfl fun M w' hs2 => ?_) ?_
    · exact opg (op_move rfl ⟨_, UpM.refl _ _, rfl⟩)
    refine dr_cons (isv (.bool false)) (by decide) (mono_isv _) (ob1 rfl fun M w' hs2 v1 k1 => ?_) ?_
    · cases k1; exact opg (op_lss rfl rfl ⟨_, UpM.refl _ _, by rw [decide_eq_false (by omega)]; rfl⟩)
    refine dr_cons (isv (.bool false)) (by decide) (mono_isv _) (ob1 rfl fun M w' hs2 v1 k1 => ?_) ?_
    · cases k1; exact opg (op_move rfl ⟨_, UpM.refl _ _, rfl⟩)
    refine dr_cons (isv (.int .i64 ((usedM ps[i])))) (by decide) (mono_isv _) (ob1 rfl fun M w' hs2 v1 k1 => ?_) ?_
    · cases k1; exact opg_yes rfl rfl (op_move rfl ⟨_, UpM.refl _ _, rfl⟩)
    refine dr_cons (isv (.int .i64 n)) (by decide) (mono_isv _) (ob1 rfl fun M w' hs2 v1 k1 => ?_) ?_
    · cases k1; exact opg_yes rfl rfl (op_move rfl ⟨_, UpM.refl _ _, rfl⟩)
    refine dr_cons (isv (.int .i64 ((4 + aro n 97)))) (by decide) (mono_isv _) (ob2 rfl fun M w' hs2 v1 k1 v2 k2 => ?_) ?_
    · cases k1; cases k2; exact opg_yes rfl rfl (op_call ent19 rfl (height_c _ _ hI) fun u w2 hu => ⟨M, by rw [hu.2]; exact UpM.refl _ _, hu.1⟩)
    refine dr_cons (isv (.bool false)) (by decide) (mono_isv _) (ob3 rfl fun M w' hs2 v1 k1 v2 k2 v3 k3 => ?_) ?_
    · cases k1; cases k2; cases k3; exact opg_yes rfl rfl (op_gtr rfl rfl ⟨_, UpM.refl _ _, by rw [decide_eq_false (by omega)]; rfl⟩)
    refine dr_cons (isv (.bool false)) (by decide) (mono_isv _) (ob2 rfl fun M w' hs2 v1 k1 v2 k2 => ?_) ?_
    · cases k1; cases k2; exact opg (op_pick_f rfl rfl ⟨_, UpM.refl _ _, rfl⟩)
    refine dr_cons (isv (.bool false)) (by decide) (mono_isv _) (ob1 rfl fun M w' hs2 v1 k1 => ?_) ?_
    · cases k1; exact opg (op_move rfl ⟨_, UpM.refl _ _, rfl⟩)
    refine dr_cons (isv vp) (by decide) (mono_isv _) (ob1 rfl fun M w' hs2 v1 k1 => ?_) ?_
    · cases k1; exact opg_yes rfl rfl (op_move rfl ⟨_, UpM.refl _ _, rfl⟩)
    refine dr_cons (isv (.int .i64 i)) (by decide) (mono_isv _) (ob1 rfl fun M w' hs2 v1 k1 => ?_) ?_
    · cases k1; exact opg_yes rfl rfl (op_move rfl ⟨_, UpM.refl _ _, rfl⟩)
    refine dr_cons (isPtr ePg ps[i]) (by decide) (mono_isPtr _ _) (ob3 rfl fun M w' hs2 v1 k1 v2 k2 v3 k3 => ?_) ?_
    · cases k1; cases k2; cases k3; exact opg_yes rfl rfl (op_indexAddr uP teP rfl rfl (hp.mono hs2.x) (by omega) fun ad hn he => ⟨_, UpM.refl _ _, ad, rfl, he⟩)
    refine dr_cons (isV ePg ps[i]) (by decide) (mono_isV _ _) (ob2 rfl fun M w' hs2 v1 k1 v2 k2 => ?_) ?_
    · cases k1; obtain ⟨ad2, rfl, he2⟩ := k2; exact opg_yes rfl rfl (op_load teP rfl he2 fun u hu => ⟨_, UpM.refl _ _, hu⟩)
    refine dr_cons (isv (.int .i64 n)) (by decide) (mono_isv _) (ob1 rfl fun M w' hs2 v1 k1 => ?_) ?_
    · cases k1; exact opg_yes rfl rfl (op_move rfl ⟨_, UpM.refl _ _, rfl⟩)
    refine dr_cons (isv (.int .i64 ((4 + aro n 97)))) (by decide) (mono_isv _) (ob2 rfl fun M w' hs2 v1 k1 v2 k2 => ?_) ?_
    · cases k1; cases k2; exact opg_yes rfl rfl (op_call ent19 rfl (height_c _ _ hI) fun u w2 hu => ⟨M, by rw [hu.2]; exact UpM.refl _ _, hu.1⟩)
    refine dr_cons (isv (.int .i64 ((((4 + aro n 97)) - ((usedM ps[i])))))) (by decide) (mono_isv _) (ob3 rfl fun M w' hs2 v1 k1 v2 k2 v3 k3 => ?_) ?_
    · cases k1; cases k3
      refine opg_yes rfl rfl (op_call ent25 rfl (room_p _ _ _ _ _ (hs2.mb hr.mb) k2 (by omega)) fun u w2 hu => ⟨_, UpM.of_below hu.2, ?_⟩)
      rw [hu.1]
      exact congrArg (fun z : Int => Value.int .i64 z) hroom
    refine dr_cons (isv (.int .i64 n)) (by decide) (mono_isv _) (ob1 rfl fun M w' hs2 v1 k1 => ?_) ?_
    · cases k1; exact opg_yes rfl rfl (op_move rfl ⟨_, UpM.refl _ _, rfl⟩)
    refine dr_cons (isv (.int .i64 ((4 + aro n 97)))) (by decide) (mono_isv _) (ob2 rfl fun M w' hs2 v1 k1 v2 k2 => ?_) ?_
    · cases k1; cases k2; exact opg_yes rfl rfl (op_call ent19 rfl (height_c _ _ hI) fun u w2 hu => ⟨M, by rw [hu.2]; exact UpM.refl _ _, hu.1⟩)
    refine dr_cons (isv (.int .i64 ((usedM ps[i])))) (by decide) (mono_isv _) (ob1 rfl fun M w' hs2 v1 k1 => ?_) ?_
    · cases k1; exact opg_yes rfl rfl (op_move rfl ⟨_, UpM.refl _ _, rfl⟩)
    refine dr_cons (isv (.int .i64 ((((4 + aro n 97)) - ((usedM ps[i])))))) (by decide) (mono_isv _) (ob3 rfl fun M w' hs2 v1 k1 v2 k2 v3 k3 => ?_) ?_
    · cases k1; cases k2; cases k3; exact opg_yes rfl rfl (op_sub rfl rfl (by omega) ⟨_, UpM.refl _ _, rfl⟩)
    refine dr_cons (isv (.bool false)) (by decide) (mono_isv _) (ob3 rfl fun M w' hs2 v1 k1 v2 k2 v3 k3 => ?_) ?_
    · cases k1; cases k2; cases k3; exact opg_yes rfl rfl (op_neq rfl rfl ⟨_, UpM.refl _ _, by rw [decide_eq_false (fun h => h rfl)]; rfl⟩)
    refine dr_nil rfl (fun M4 w6 val hs2 hall => ?_)
    obtain ⟨h77, _, _, _, _, _, _, _, _, _, _, _, h65, _⟩ := hall
    have e77 : val 77 = _ := h77; have e65 : val 65 = _ := h65
    replace hb := hb.mono hs2.x
    replace hn := hn.mono hs2.x
    replace hp := hp.mono hs2.x
    replace hx := hx.mono hs2.x
    replace hy := hy.mono hs2.x
    replace hr := hr.up hs2
    replace hgx := hgx.up hs2
    replace hgy := hgy.up hs2
    refine RT.sub (fr' := [(1, .int .i64 n), (5, vb), (6, vn), (7, vp), (9, vx), (10, vy), (11, .slice none 0 0), (12, .int .i64 i), (65, val 65), (77, val 77)]) ?_ (by repeat (first | exact trivial | refine ⟨rfl, ?_⟩))
    rw [e65, e77]
    clear hs2 h77 e77 h65 e65
    refine rt_one (i := 21) (by kernel_rfl) rfl (by decide) (op_pick_f rfl rfl ?_)
    refine rt_nil (by kernel_rfl) ?_
    (repeat (first
        | refine run_seq ?_
        | refine run_region_l ?_
        | refine rl_nil ?_
        | refine rl_step (by decide) (op_move rfl ?_)
        | refine rl_step (by decide) (op_assign rfl ?_)
        | refine run_block ?_
        | refine run_inBlock ?_
        | refine run_exit rfl ?_
        | refine run_skip ?_
        | refine run_label ?_
        | refine run_true rfl ?_
        | refine run_false rfl ?_
        | refine rl_yes rfl rfl ?_
        | refine rl_no rfl rfl rfl (by decide) ?_
        | refine rl_step (by decide) (op_pick_t rfl rfl ?_)
        | refine rl_step (by decide) (op_pick_f rfl rfl ?_)
        | refine rl_step (by decide) (op_lss rfl rfl ?_)
        | refine rl_step (by decide) (op_leq rfl rfl ?_)
        | refine rl_step (by decide) (op_gtr rfl rfl ?_)
        | refine rl_step (by decide) (op_geq rfl rfl ?_)
        | refine rl_step (by decide) (op_eql rfl rfl ?_)
        | refine rl_step (by decide) (op_neq rfl rfl ?_)
        | refine rl_step (by decide) (op_not rfl ?_)
        | refine rl_step (by decide) (op_min rfl rfl ?_)
        | refine rl_step (by decide) (op_max rfl rfl ?_)
        | refine rl_step (by decide) (op_extract rfl rfl ?_)
        | refine rl_step (by decide) (op_add rfl rfl (by omega) ?_)
        | refine rl_step (by decide) (op_sub rfl rfl (by omega) ?_)
        | refine rl_step (by decide) (op_neg rfl (by omega) ?_)))
    refine rl_step (by decide) (op_indexAddr uP teP rfl rfl hp (by omega) ?_)
    intro ad _ he
    refine rl_step (by decide) (op_fieldAddr fdP3 rfl ?_)
    refine rl_step (by decide) (op_load teSL rfl he.pg.2.1 ?_)
    intro u hu2
    rw [eSl_V] at hu2
    refine rl_step (by decide) (op_append (E := eLine) (tag := 1) uL teL rfl rfl hr hx hgx hu2 (by show (_ + ps[i].body.length) * 64 ≤ _; omega) ?_)
    intro vx' w7 M5 hx2 hgx2 hst
    replace hb := hb.mono hst.x
    replace hn := hn.mono hst.x
    replace hp := hp.mono hst.x
    replace hy := hy.mono hst.x
    replace hr := hr.st hst
    replace hgy := hgy.st hst (by decide)
    clear hst hu2 he hx hgx
    (repeat (first
        | refine run_seq ?_
        | refine run_region_l ?_
        | refine rl_nil ?_
        | refine rl_step (by decide) (op_move rfl ?_)
        | refine rl_step (by decide) (op_assign rfl ?_)
        | refine run_block ?_
        | refine run_inBlock ?_
        | refine run_exit rfl ?_
        | refine run_skip ?_
        | refine run_label ?_
        | refine run_true rfl ?_
        | refine run_false rfl ?_
        | refine rl_yes rfl rfl ?_
        | refine rl_no rfl rfl rfl (by decide) ?_
        | refine rl_step (by decide) (op_pick_t rfl rfl ?_)
        | refine rl_step (by decide) (op_pick_f rfl rfl ?_)
        | refine rl_step (by decide) (op_lss rfl rfl ?_)
        | refine rl_step (by decide) (op_leq rfl rfl ?_)
        | refine rl_step (by decide) (op_gtr rfl rfl ?_)
        | refine rl_step (by decide) (op_geq rfl rfl ?_)
        | refine rl_step (by decide) (op_eql rfl rfl ?_)
        | refine rl_step (by decide) (op_neq rfl rfl ?_)
        | refine rl_step (by decide) (op_not rfl ?_)
        | refine rl_step (by decide) (op_min rfl rfl ?_)
        | refine rl_step (by decide) (op_max rfl rfl ?_)
        | refine rl_step (by decide) (op_extract rfl rfl ?_)
        | refine rl_step (by decide) (op_add rfl rfl (by omega) ?_)
        | refine rl_step (by decide) (op_sub rfl rfl (by omega) ?_)
        | refine rl_step (by decide) (op_neg rfl (by omega) ?_)))
    refine rl_step (by decide) (op_indexAddr uP teP rfl rfl hp (by omega) ?_)
    intro ad _ he
    refine rl_step (by decide) (op_fieldAddr fdP4 rfl ?_)
    refine rl_step (by decide) (op_load teSL rfl he.pg.2.2 ?_)
    intro u hu2
    rw [eSl_V] at hu2
    refine rl_step (by decide) (op_append (E := eLine) (tag := 2) uL teL rfl rfl hr hy hgy hu2 (by show (_ + ps[i].notes.length) * 64 ≤ _; omega) ?_)
    intro vy' w8 M6 hy2 hgy2 hst
    replace hb := hb.mono hst.x
    replace hn := hn.mono hst.x
    replace hp := hp.mono hst.x
    replace hx2 := hx2.mono hst.x
    replace hr := hr.st hst
    replace hgx2 := hgx2.st hst (by decide)
    clear hst hu2 he hy hgy
    have tb : (ps.take (i + 1)).flatMap (·.body) = (ps.take i).flatMap (·.body) ++ ps[i].body := flat_take _ _ _ hlt'
    have tn : (ps.take (i + 1)).flatMap (·.notes) = (ps.take i).flatMap (·.notes) ++ ps[i].notes := flat_take _ _ _ hlt'
    simp only [Int.toNat_natCast] at hx2 hgx2 hy2 hgy2
    rw [← tb] at hx2 hgx2
    rw [← tn] at hy2 hgy2
    (repeat (first
        | refine run_seq ?_
        | refine run_region_l ?_
        | refine rl_nil ?_
        | refine rl_step (by decide) (op_move rfl ?_)
        | refine rl_step (by decide) (op_assign rfl ?_)
        | refine run_block ?_
        | refine run_inBlock ?_
        | refine run_exit rfl ?_
        | refine run_skip ?_
        | refine run_label ?_
        | refine run_true rfl ?_
        | refine run_false rfl ?_
        | refine rl_yes rfl rfl ?_
        | refine rl_no rfl rfl rfl (by decide) ?_
        | refine rl_step (by decide) (op_pick_t rfl rfl ?_)
        | refine rl_step (by decide) (op_pick_f rfl rfl ?_)
        | refine rl_step (by decide) (op_lss rfl rfl ?_)
        | refine rl_step (by decide) (op_leq rfl rfl ?_)
        | refine rl_step (by decide) (op_gtr rfl rfl ?_)
        | refine rl_step (by decide) (op_geq rfl rfl ?_)
        | refine rl_step (by decide) (op_eql rfl rfl ?_)
        | refine rl_step (by decide) (op_neq rfl rfl ?_)
        | refine rl_step (by decide) (op_not rfl ?_)
        | refine rl_step (by decide) (op_min rfl rfl ?_)
        | refine rl_step (by decide) (op_max rfl rfl ?_)
        | refine rl_step (by decide) (op_extract rfl rfl ?_)
        | refine rl_step (by decide) (op_add rfl rfl (by omega) ?_)
        | refine rl_step (by decide) (op_sub rfl rfl (by omega) ?_)
        | refine rl_step (by decide) (op_neg rfl (by omega) ?_)))
    exact (ih (i + 1, vx', vy', M6) _ ⟨by simp only; omega, hr, hb, hn, hp, hx2, hgx2, hy2, hgy2⟩ (by simp only; omega)).sub (by repeat (first | exact trivial | refine ⟨rfl, ?_⟩))
  have hie : i = ps.length := by omega
  rw [hie, List.take_length, o1] at hx
  rw [hie, List.take_length, o2] at hy
  clear ih hgx hgy
  (repeat (first
      | refine run_seq ?_
      | refine run_region_l ?_
      | refine rl_nil ?_
      | refine rl_step (by decide) (op_move rfl ?_)
      | refine rl_step (by decide) (op_assign rfl ?_)
      | refine run_block ?_
      | refine run_inBlock ?_
      | refine run_exit rfl ?_
      | refine run_skip ?_
      | refine run_label ?_
      | refine run_true rfl ?_
      | refine run_false rfl ?_
      | refine rl_yes rfl rfl ?_
      | refine rl_no rfl rfl rfl (by decide) ?_
      | refine rl_step (by decide) (op_pick_t rfl rfl ?_)
      | refine rl_step (by decide) (op_pick_f rfl rfl ?_)
      | refine rl_step (by decide) (op_lss rfl rfl ?_)
      | refine rl_step (by decide) (op_leq rfl rfl ?_)
      | refine rl_step (by decide) (op_gtr rfl rfl ?_)
      | refine rl_step (by decide) (op_geq rfl rfl ?_)
      | refine rl_step (by decide) (op_eql rfl rfl ?_)
      | refine rl_step (by decide) (op_neq rfl rfl ?_)
      | refine rl_step (by decide) (op_not rfl ?_)
      | refine rl_step (by decide) (op_min rfl rfl ?_)
      | refine rl_step (by decide) (op_max rfl rfl ?_)
      | refine rl_step (by decide) (op_extract rfl rfl ?_)
      | refine rl_step (by decide) (op_add rfl rfl (by omega) ?_)
      | refine rl_step (by decide) (op_sub rfl rfl (by omega) ?_)
      | refine rl_step (by decide) (op_neg rfl (by omega) ?_)))
  refine (run_loop (α := Nat × Value × Mut) (fun x => [(5, vb), (6, vn), (9, vx), (10, vy), (11, x.2.1), (14, .int .i64 x.1)])
    (fun x w' => x.1 ≤ notes.length ∧ Rn M w x.2.2 w' ∧ SlOf eLine x.2.2 w' vb body ∧ SlOf (eSl eLine) x.2.2 w' vn notes ∧ SlOf eLine x.2.2 w' vx body ∧ SlOf eLine x.2.2 w' vy notes.flatten ∧ SlOf eLine x.2.2 w' x.2.1 ((notes.take x.1).flatMap id) ∧ Grow w.heap.size x.2.2 w' x.2.1 ((notes.take x.1).flatMap id).length 4 3 47)
    (fun x => notes.length - x.1) (0, .slice none 0 0, M1) ⟨Nat.zero_le _, hr, hb, hn, hx, hy, SlOf.nil _ _ _, Grow.nil⟩ ?_).sub (by repeat (first | exact trivial | refine ⟨rfl, ?_⟩))
  clear hr hb hn hp hx hy
  rintro ⟨j, vz, M2⟩ w5 ⟨hj, hr, hb, hn, hx, hy, hz, hgz⟩ ih
  simp only at hj hr hb hn hx hy hz hgz ih
  try dsimp only
  (repeat (first
      | refine run_seq ?_
      | refine run_region_l ?_
      | refine rl_nil ?_
      | refine rl_step (by decide) (op_move rfl ?_)
      | refine rl_step (by decide) (op_assign rfl ?_)
      | refine run_block ?_
      | refine run_inBlock ?_
      | refine run_exit rfl ?_
      | refine run_skip ?_
      | refine run_label ?_
      | refine run_true rfl ?_
      | refine run_false rfl ?_
      | refine rl_yes rfl rfl ?_
      | refine rl_no rfl rfl rfl (by decide) ?_
      | refine rl_step (by decide) (op_pick_t rfl rfl ?_)
      | refine rl_step (by decide) (op_pick_f rfl rfl ?_)
      | refine rl_step (by decide) (op_lss rfl rfl ?_)
      | refine rl_step (by decide) (op_leq rfl rfl ?_)
      | refine rl_step (by decide) (op_gtr rfl rfl ?_)
      | refine rl_step (by decide) (op_geq rfl rfl ?_)
      | refine rl_step (by decide) (op_eql rfl rfl ?_)
      | refine rl_step (by decide) (op_neq rfl rfl ?_)
      | refine rl_step (by decide) (op_not rfl ?_)
      | refine rl_step (by decide) (op_min rfl rfl ?_)
      | refine rl_step (by decide) (op_max rfl rfl ?_)
      | refine rl_step (by decide) (op_extract rfl rfl ?_)
      | refine rl_step (by decide) (op_add rfl rfl (by omega) ?_)
      | refine rl_step (by decide) (op_sub rfl rfl (by omega) ?_)
      | refine rl_step (by decide) (op_neg rfl (by omega) ?_)))
  refine rl_step (by decide) (op_len uLL rfl hn ?_)
  (repeat (first
      | refine run_seq ?_
      | refine run_region_l ?_
      | refine rl_nil ?_
      | refine rl_step (by decide) (op_move rfl ?_)
      | refine rl_step (by decide) (op_assign rfl ?_)
      | refine run_block ?_
      | refine run_inBlock ?_
      | refine run_exit rfl ?_
      | refine run_skip ?_
      | refine run_label ?_
      | refine run_true rfl ?_
      | refine run_false rfl ?_
      | refine rl_yes rfl rfl ?_
      | refine rl_no rfl rfl rfl (by decide) ?_
      | refine rl_step (by decide) (op_pick_t rfl rfl ?_)
      | refine rl_step (by decide) (op_pick_f rfl rfl ?_)
      | refine rl_step (by decide) (op_lss rfl rfl ?_)
      | refine rl_step (by decide) (op_leq rfl rfl ?_)
      | refine rl_step (by decide) (op_gtr rfl rfl ?_)
      | refine rl_step (by decide) (op_geq rfl rfl ?_)
      | refine rl_step (by decide) (op_eql rfl rfl ?_)
      | refine rl_step (by decide) (op_neq rfl rfl ?_)
      | refine rl_step (by decide) (op_not rfl ?_)
      | refine rl_step (by decide) (op_min rfl rfl ?_)
      | refine rl_step (by decide) (op_max rfl rfl ?_)
      | refine rl_step (by decide) (op_extract rfl rfl ?_)
      | refine rl_step (by decide) (op_add rfl rfl (by omega) ?_)
      | refine rl_step (by decide) (op_sub rfl rfl (by omega) ?_)
      | refine rl_step (by decide) (op_neg rfl (by omega) ?_)))
  refine run_if rfl (fun hlt => ?_) (fun hlt => ?_)
  · have hlt' : j < notes.length := by omega
    have f3 := flat_take_le id notes (j + 1)
    have f4 : notes.flatMap id = notes.flatten := List.flatMap_id
    rw [flat_take _ _ _ hlt', List.length_append, f4] at f3
    simp only [id] at f3
    (repeat (first
        | refine run_seq ?_
        | refine run_region_l ?_
        | refine rl_nil ?_
        | refine rl_step (by decide) (op_move rfl ?_)
        | refine rl_step (by decide) (op_assign rfl ?_)
        | refine run_block ?_
        | refine run_inBlock ?_
        | refine run_exit rfl ?_
        | refine run_skip ?_
        | refine run_label ?_
        | refine run_true rfl ?_
        | refine run_false rfl ?_
        | refine rl_yes rfl rfl ?_
        | refine rl_no rfl rfl rfl (by decide) ?_
        | refine rl_step (by decide) (op_pick_t rfl rfl ?_)
        | refine rl_step (by decide) (op_pick_f rfl rfl ?_)
        | refine rl_step (by decide) (op_lss rfl rfl ?_)
        | refine rl_step (by decide) (op_leq rfl rfl ?_)
        | refine rl_step (by decide) (op_gtr rfl rfl ?_)
        | refine rl_step (by decide) (op_geq rfl rfl ?_)
        | refine rl_step (by decide) (op_eql rfl rfl ?_)
        | refine rl_step (by decide) (op_neq rfl rfl ?_)
        | refine rl_step (by decide) (op_not rfl ?_)
        | refine rl_step (by decide) (op_min rfl rfl ?_)
        | refine rl_step (by decide) (op_max rfl rfl ?_)
        | refine rl_step (by decide) (op_extract rfl rfl ?_)
        | refine rl_step (by decide) (op_add rfl rfl (by omega) ?_)
        | refine rl_step (by decide) (op_sub rfl rfl (by omega) ?_)
        | refine rl_step (by decide) (op_neg rfl (by omega) ?_)))
    refine rl_step (by decide) (op_indexAddr uLL teSL rfl rfl hn (by omega) ?_)
    intro ad _ he
    refine rl_step (by decide) (op_load teSL rfl he ?_)
    intro u hu2
    rw [eSl_V] at hu2
    refine rl_step (by decide) (op_append (E := eLine) (tag := 3) uL teL rfl rfl hr hz hgz hu2 (by show (_ + notes[j].length) * 64 ≤ _; omega) ?_)
    intro vz' w7 M5 hz2 hgz2 hst
    replace hb := hb.mono hst.x
    replace hn := hn.mono hst.x
    replace hx := hx.mono hst.x
    replace hy := hy.mono hst.x
    replace hr := hr.st hst
    have tz : (notes.take (j + 1)).flatMap id = (notes.take j).flatMap id ++ notes[j] := flat_take _ _ _ hlt'
    simp only [Int.toNat_natCast] at hz2 hgz2
    rw [← tz] at hz2 hgz2
    (repeat (first
        | refine run_seq ?_
        | refine run_region_l ?_
        | refine rl_nil ?_
        | refine rl_step (by decide) (op_move rfl ?_)
        | refine rl_step (by decide) (op_assign rfl ?_)
        | refine run_block ?_
        | refine run_inBlock ?_
        | refine run_exit rfl ?_
        | refine run_skip ?_
        | refine run_label ?_
        | refine run_true rfl ?_
        | refine run_false rfl ?_
        | refine rl_yes rfl rfl ?_
        | refine rl_no rfl rfl rfl (by decide) ?_
        | refine rl_step (by decide) (op_pick_t rfl rfl ?_)
        | refine rl_step (by decide) (op_pick_f rfl rfl ?_)
        | refine rl_step (by decide) (op_lss rfl rfl ?_)
        | refine rl_step (by decide) (op_leq rfl rfl ?_)
        | refine rl_step (by decide) (op_gtr rfl rfl ?_)
        | refine rl_step (by decide) (op_geq rfl rfl ?_)
        | refine rl_step (by decide) (op_eql rfl rfl ?_)
        | refine rl_step (by decide) (op_neq rfl rfl ?_)
        | refine rl_step (by decide) (op_not rfl ?_)
        | refine rl_step (by decide) (op_min rfl rfl ?_)
        | refine rl_step (by decide) (op_max rfl rfl ?_)
        | refine rl_step (by decide) (op_extract rfl rfl ?_)
        | refine rl_step (by decide) (op_add rfl rfl (by omega) ?_)
        | refine rl_step (by decide) (op_sub rfl rfl (by omega) ?_)
        | refine rl_step (by decide) (op_neg rfl (by omega) ?_)))
    exact (ih (j + 1, vz', M5) _ ⟨by simp only; omega, hr, hb, hn, hx, hy, hz2, hgz2⟩ (by simp only; omega)).sub (by repeat (first | exact trivial | refine ⟨rfl, ?_⟩))
  have hje : j = notes.length := by omega
  rw [hje, List.take_length, List.flatMap_id] at hz
  clear ih hgz
  (repeat (first
      | refine run_seq ?_
      | refine run_region_l ?_
      | refine rl_nil ?_
      | refine rl_step (by decide) (op_move rfl ?_)
      | refine rl_step (by decide) (op_assign rfl ?_)
      | refine run_block ?_
      | refine run_inBlock ?_
      | refine run_exit rfl ?_
      | refine run_skip ?_
      | refine run_label ?_
      | refine run_true rfl ?_
      | refine run_false rfl ?_
      | refine rl_yes rfl rfl ?_
      | refine rl_no rfl rfl rfl (by decide) ?_
      | refine rl_step (by decide) (op_pick_t rfl rfl ?_)
      | refine rl_step (by decide) (op_pick_f rfl rfl ?_)
      | refine rl_step (by decide) (op_lss rfl rfl ?_)
      | refine rl_step (by decide) (op_leq rfl rfl ?_)
      | refine rl_step (by decide) (op_gtr rfl rfl ?_)
      | refine rl_step (by decide) (op_geq rfl rfl ?_)
      | refine rl_step (by decide) (op_eql rfl rfl ?_)
      | refine rl_step (by decide) (op_neq rfl rfl ?_)
      | refine rl_step (by decide) (op_not rfl ?_)
      | refine rl_step (by decide) (op_min rfl rfl ?_)
      | refine rl_step (by decide) (op_max rfl rfl ?_)
      | refine rl_step (by decide) (op_extract rfl rfl ?_)
      | refine rl_step (by decide) (op_add rfl rfl (by omega) ?_)
      | refine rl_step (by decide) (op_sub rfl rfl (by omega) ?_)
      | refine rl_step (by decide) (op_neg rfl (by omega) ?_)))
  refine rl_step (by decide) (op_call ent27 rfl (sameLines_c M2 _ _ _ _ hr.mb hx hb) ?_)
  rintro _ w6 ⟨rfl, hbel⟩
  have hs := UpM.of_below (M := M2) hbel
  replace hr := hr.up hs
  replace hy := hy.mono hs.x
  replace hz := hz.mono hs.x
  clear hs hbel
  (repeat (first
      | refine run_seq ?_
      | refine run_region_l ?_
      | refine rl_nil ?_
      | refine rl_step (by decide) (op_move rfl ?_)
      | refine rl_step (by decide) (op_assign rfl ?_)
      | refine run_block ?_
      | refine run_inBlock ?_
      | refine run_exit rfl ?_
      | refine run_skip ?_
      | refine run_label ?_
      | refine run_true rfl ?_
      | refine run_false rfl ?_
      | refine rl_yes rfl rfl ?_
      | refine rl_no rfl rfl rfl (by decide) ?_
      | refine rl_step (by decide) (op_pick_t rfl rfl ?_)
      | refine rl_step (by decide) (op_pick_f rfl rfl ?_)
      | refine rl_step (by decide) (op_lss rfl rfl ?_)
      | refine rl_step (by decide) (op_leq rfl rfl ?_)
      | refine rl_step (by decide) (op_gtr rfl rfl ?_)
      | refine rl_step (by decide) (op_geq rfl rfl ?_)
      | refine rl_step (by decide) (op_eql rfl rfl ?_)
      | refine rl_step (by decide) (op_neq rfl rfl ?_)
      | refine rl_step (by decide) (op_not rfl ?_)
      | refine rl_step (by decide) (op_min rfl rfl ?_)
      | refine rl_step (by decide) (op_max rfl rfl ?_)
      | refine rl_step (by decide) (op_extract rfl rfl ?_)
      | refine rl_step (by decide) (op_add rfl rfl (by omega) ?_)
      | refine rl_step (by decide) (op_sub rfl rfl (by omega) ?_)
      | refine rl_step (by decide) (op_neg rfl (by omega) ?_)))
  refine rl_step (by decide) (op_call ent27 rfl (sameLines_c M2 _ _ _ _ hr.mb hy hz) ?_)
  rintro _ w7 ⟨rfl, hbel⟩
  replace hr := hr.up (UpM.of_below (M := M2) hbel)
  clear hbel
  (repeat (first
      | refine run_seq ?_
      | refine run_region_l ?_
      | refine rl_nil ?_
      | refine rl_step (by decide) (op_move rfl ?_)
      | refine rl_step (by decide) (op_assign rfl ?_)
      | refine run_block ?_
      | refine run_inBlock ?_
      | refine run_exit rfl ?_
      | refine run_skip ?_
      | refine run_label ?_
      | refine run_true rfl ?_
      | refine run_false rfl ?_
      | refine rl_yes rfl rfl ?_
      | refine rl_no rfl rfl rfl (by decide) ?_
      | refine rl_step (by decide) (op_pick_t rfl rfl ?_)
      | refine rl_step (by decide) (op_pick_f rfl rfl ?_)
      | refine rl_step (by decide) (op_lss rfl rfl ?_)
      | refine rl_step (by decide) (op_leq rfl rfl ?_)
      | refine rl_step (by decide) (op_gtr rfl rfl ?_)
      | refine rl_step (by decide) (op_geq rfl rfl ?_)
      | refine rl_step (by decide) (op_eql rfl rfl ?_)
      | refine rl_step (by decide) (op_neq rfl rfl ?_)
      | refine rl_step (by decide) (op_not rfl ?_)
      | refine rl_step (by decide) (op_min rfl rfl ?_)
      | refine rl_step (by decide) (op_max rfl rfl ?_)
      | refine rl_step (by decide) (op_extract rfl rfl ?_)
      | refine rl_step (by decide) (op_add rfl rfl (by omega) ?_)
      | refine rl_step (by decide) (op_sub rfl rfl (by omega) ?_)
      | refine rl_step (by decide) (op_neg rfl (by omega) ?_)))
  refine rl_step (by decide) (op_call ent22 rfl (lives_c M2 _ hr.mb) ?_)
  rintro _ w8 ⟨rfl, hbel⟩
  replace hr := hr.up (UpM.of_below (M := M2) hbel)
  clear hbel
  (repeat (first
      | refine run_seq ?_
      | refine run_region_l ?_
      | refine rl_nil ?_
      | refine rl_step (by decide) (op_move rfl ?_)
      | refine rl_step (by decide) (op_assign rfl ?_)
      | refine run_block ?_
      | refine run_inBlock ?_
      | refine run_exit rfl ?_
      | refine run_skip ?_
      | refine run_label ?_
      | refine run_true rfl ?_
      | refine run_false rfl ?_
      | refine rl_yes rfl rfl ?_
      | refine rl_no rfl rfl rfl (by decide) ?_
      | refine rl_step (by decide) (op_pick_t rfl rfl ?_)
      | refine rl_step (by decide) (op_pick_f rfl rfl ?_)
      | refine rl_step (by decide) (op_lss rfl rfl ?_)
      | refine rl_step (by decide) (op_leq rfl rfl ?_)
      | refine rl_step (by decide) (op_gtr rfl rfl ?_)
      | refine rl_step (by decide) (op_geq rfl rfl ?_)
      | refine rl_step (by decide) (op_eql rfl rfl ?_)
      | refine rl_step (by decide) (op_neq rfl rfl ?_)
      | refine rl_step (by decide) (op_not rfl ?_)
      | refine rl_step (by decide) (op_min rfl rfl ?_)
      | refine rl_step (by decide) (op_max rfl rfl ?_)
      | refine rl_step (by decide) (op_extract rfl rfl ?_)
      | refine rl_step (by decide) (op_add rfl rfl (by omega) ?_)
      | refine rl_step (by decide) (op_sub rfl rfl (by omega) ?_)
      | refine rl_step (by decide) (op_neg rfl (by omega) ?_)))
  refine run_ret1 Try.func6 rfl rfl ?_
  exact ⟨rfl, hr.bel⟩

end Go.Proofs.Ytocoinkhbjlbhaa
