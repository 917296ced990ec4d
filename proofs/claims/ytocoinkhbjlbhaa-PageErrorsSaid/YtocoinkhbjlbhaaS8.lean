/-
  Walk: the law of a page's room.
-/
import Derived.Test.YtocoinkhbjlbhaaS7
namespace Go.Proofs.Ytocoinkhbjlbhaa
open Go Go.RowKit

theorem bound03 (n m : Int) (w : World) (hn : I64 n) (hm : 1 ≤ m ∧ m ≤ 4611686018427387000) : CallsV Try.prog 24 [.int .i64 n, .int .i64 m] w (fun v w' => v = .int .i64 (aro n (2 * m + 1) - m) ∧ w' = w) := by
  have hb := aro_bd n (2 * m + 1) (by omega)
  refine callsV_of_run Try.func24 rfl Try.ntmps24 (Nat.le_of_ble_eq_true rfl) ?_
  (repeat (first
      | refine run_seq ?_
      | refine run_region_l ?_
      | refine rl_nil ?_
      | refine rl_step (by decide) (op_move rfl ?_)
      | refine rl_step (by decide) (op_assign rfl ?_)
      | refine run_block ?_
      | refine run_inBlock ?_
      | refine run_exit rfl ?_
      | refine run_skip ?_
      | refine run_label ?_
      | refine run_true rfl ?_
      | refine run_false rfl ?_
      | refine rl_yes rfl rfl ?_
      | refine rl_no rfl rfl rfl (by decide) ?_
      | refine rl_step (by decide) (op_pick_t rfl rfl ?_)
      | refine rl_step (by decide) (op_pick_f rfl rfl ?_)
      | refine rl_step (by decide) (op_lss rfl rfl ?_)
      | refine rl_step (by decide) (op_leq rfl rfl ?_)
      | refine rl_step (by decide) (op_gtr rfl rfl ?_)
      | refine rl_step (by decide) (op_geq rfl rfl ?_)
      | refine rl_step (by decide) (op_eql rfl rfl ?_)
      | refine rl_step (by decide) (op_neq rfl rfl ?_)
      | refine rl_step (by decide) (op_not rfl ?_)
      | refine rl_step (by decide) (op_min rfl rfl ?_)
      | refine rl_step (by decide) (op_max rfl rfl ?_)
      | refine rl_step (by decide) (op_extract rfl rfl ?_)
      | refine rl_step (by decide) (op_add rfl rfl (by omega) ?_)
      | refine rl_step (by decide) (op_sub rfl rfl (by omega) ?_)
      | refine rl_step (by decide) (op_neg rfl (by omega) ?_)))
  refine rl_step (by decide) (op_mul rfl rfl (by omega) ?_)
  (repeat (first
      | refine run_seq ?_
      | refine run_region_l ?_
      | refine rl_nil ?_
      | refine rl_step (by decide) (op_move rfl ?_)
      | refine rl_step (by decide) (op_assign rfl ?_)
      | refine run_block ?_
      | refine run_inBlock ?_
      | refine run_exit rfl ?_
      | refine run_skip ?_
      | refine run_label ?_
      | refine run_true rfl ?_
      | refine run_false rfl ?_
      | refine rl_yes rfl rfl ?_
      | refine rl_no rfl rfl rfl (by decide) ?_
      | refine rl_step (by decide) (op_pick_t rfl rfl ?_)
      | refine rl_step (by decide) (op_pick_f rfl rfl ?_)
      | refine rl_step (by decide) (op_lss rfl rfl ?_)
      | refine rl_step (by decide) (op_leq rfl rfl ?_)
      | refine rl_step (by decide) (op_gtr rfl rfl ?_)
      | refine rl_step (by decide) (op_geq rfl rfl ?_)
      | refine rl_step (by decide) (op_eql rfl rfl ?_)
      | refine rl_step (by decide) (op_neq rfl rfl ?_)
      | refine rl_step (by decide) (op_not rfl ?_)
      | refine rl_step (by decide) (op_min rfl rfl ?_)
      | refine rl_step (by decide) (op_max rfl rfl ?_)
      | refine rl_step (by decide) (op_extract rfl rfl ?_)
      | refine rl_step (by decide) (op_add rfl rfl (by omega) ?_)
      | refine rl_step (by decide) (op_sub rfl rfl (by omega) ?_)
      | refine rl_step (by decide) (op_neg rfl (by omega) ?_)))
  refine rl_step (by decide) (op_call ent23 rfl (around03 _ _ _ hn (by omega)) ?_)
  rintro v w' ⟨rfl, rfl⟩
  (repeat (first
      | refine run_seq ?_
      | refine run_region_l ?_
      | refine rl_nil ?_
      | refine rl_step (by decide) (op_move rfl ?_)
      | refine rl_step (by decide) (op_assign rfl ?_)
      | refine run_block ?_
      | refine run_inBlock ?_
      | refine run_exit rfl ?_
      | refine run_skip ?_
      | refine run_label ?_
      | refine run_true rfl ?_
      | refine run_false rfl ?_
      | refine rl_yes rfl rfl ?_
      | refine rl_no rfl rfl rfl (by decide) ?_
      | refine rl_step (by decide) (op_pick_t rfl rfl ?_)
      | refine rl_step (by decide) (op_pick_f rfl rfl ?_)
      | refine rl_step (by decide) (op_lss rfl rfl ?_)
      | refine rl_step (by decide) (op_leq rfl rfl ?_)
      | refine rl_step (by decide) (op_gtr rfl rfl ?_)
      | refine rl_step (by decide) (op_geq rfl rfl ?_)
      | refine rl_step (by decide) (op_eql rfl rfl ?_)
      | refine rl_step (by decide) (op_neq rfl rfl ?_)
      | refine rl_step (by decide) (op_not rfl ?_)
      | refine rl_step (by decide) (op_min rfl rfl ?_)
      | refine rl_step (by decide) (op_max rfl rfl ?_)
      | refine rl_step (by decide) (op_extract rfl rfl ?_)
      | refine rl_step (by decide) (op_add rfl rfl (by omega) ?_)
      | refine rl_step (by decide) (op_sub rfl rfl (by omega) ?_)
      | refine rl_step (by decide) (op_neg rfl (by omega) ?_)))
  refine run_ret1 Try.func24 rfl rfl ?_
  exact ⟨rfl, rfl⟩

/-- A line with nothing in it. -/
def line0 : Line := ⟨0, 0, [], []⟩
theorem line0_R (M : Mut) (w : World) : eLine.R M w [.int .i64 0, .int .i64 0, .slice none 0 0, .slice none 0 0] line0 :=
  eLine_R.2 ⟨_, _, rfl, by unfold I64; simp [line0], by unfold I64; simp [line0], SlOf.nil _ _ _, SlOf.nil _ _ _⟩

theorem pageRoom_w (M : Mut) (w : World) (a b c : Int) (hm : MB M w) (ha : I64 a) (hb : I64 b) (hc : I64 c) :
    CallsV Try.prog 5 [.int .i64 a, .int .i64 b, .int .i64 c] w (fun u w' => u = .bool true ∧ Below w.heap.size w w') := by
  have hr := Rn.refl hm
  have ba := aro_bd a 101 (by omega)
  have bb := aro_bd b 101 (by omega)
  have bc := aro_bd c (2 * 1073741824 + 1) (by omega)
  refine callsV_of_run Try.func5 rfl Try.ntmps5 (Nat.le_of_ble_eq_true rfl) ?_
  (repeat (first
      | refine run_seq ?_
      | refine run_region_l ?_
      | refine rl_nil ?_
      | refine rl_step (by decide) (op_move rfl ?_)
      | refine rl_step (by decide) (op_assign rfl ?_)
      | refine run_block ?_
      | refine run_inBlock ?_
      | refine run_exit rfl ?_
      | refine run_skip ?_
      | refine run_label ?_
      | refine run_true rfl ?_
      | refine run_false rfl ?_
      | refine rl_yes rfl rfl ?_
      | refine rl_no rfl rfl rfl (by decide) ?_
      | refine rl_step (by decide) (op_pick_t rfl rfl ?_)
      | refine rl_step (by decide) (op_pick_f rfl rfl ?_)
      | refine rl_step (by decide) (op_lss rfl rfl ?_)
      | refine rl_step (by decide) (op_leq rfl rfl ?_)
      | refine rl_step (by decide) (op_gtr rfl rfl ?_)
      | refine rl_step (by decide) (op_geq rfl rfl ?_)
      | refine rl_step (by decide) (op_eql rfl rfl ?_)
      | refine rl_step (by decide) (op_neq rfl rfl ?_)
      | refine rl_step (by decide) (op_not rfl ?_)
      | refine rl_step (by decide) (op_min rfl rfl ?_)
      | refine rl_step (by decide) (op_max rfl rfl ?_)
      | refine rl_step (by decide) (op_extract rfl rfl ?_)
      | refine rl_step (by decide) (op_add rfl rfl (by omega) ?_)
      | refine rl_step (by decide) (op_sub rfl rfl (by omega) ?_)
      | refine rl_step (by decide) (op_neg rfl (by omega) ?_)))
  refine region_dr (M := M) 8 1 [] mixed rfl (by kernel_rfl) (fun w1 hs1 => ?_)
  replace hr := hr.up hs1
  refine dr_cons (isv _) (by decide) (mono_isv _) (ob0 rfl fun M w hs => opg (op_move rfl ⟨_, UpM.refl _ _, rfl⟩)) ?_
  refine dr_cons (isv (.int .i64 (aro a 101))) (by decide) (mono_isv _) (ob1 rfl fun M w' hs2 v1 k1 => ?_) ?_
  · cases k1
    exact opg (op_call ent23 rfl (around03 _ _ _ ha (by omega)) fun u w2 ⟨h1, h2⟩ => ⟨M, by rw [h2]; exact UpM.refl _ _, h1⟩)
  refine dr_cons (isSl eLine (List.replicate (aro a 101).toNat line0)) (by decide) (mono_isSl _ _) (ob1 rfl fun M w' hs2 v1 k1 => ?_) ?_
  · cases k1
    exact opg (op_makeZ (E := eLine) (x0 := line0) uL tdL line0_R rfl rfl (hr.up hs2) (by omega) (by show 64 * _ ≤ _; omega) (by omega) fun u w2 h1 h2 => ⟨_, UpM.of_below h2, h1⟩)
  refine dr_cons (isv _) (by decide) (mono_isv _) (ob0 rfl fun M w hs => opg (op_move rfl ⟨_, UpM.refl _ _, rfl⟩)) ?_
  refine dr_cons (isv (.int .i64 (aro b 101))) (by decide) (mono_isv _) (ob1 rfl fun M w' hs2 v1 k1 => ?_) ?_
  · cases k1
    exact opg (op_call ent23 rfl (around03 _ _ _ hb (by omega)) fun u w2 ⟨h1, h2⟩ => ⟨M, by rw [h2]; exact UpM.refl _ _, h1⟩)
  refine dr_cons (isSl eLine (List.replicate (aro b 101).toNat line0)) (by decide) (mono_isSl _ _) (ob1 rfl fun M w' hs2 v1 k1 => ?_) ?_
  · cases k1
    exact opg (op_makeZ (E := eLine) (x0 := line0) uL tdL line0_R rfl rfl (hr.up hs2) (by omega) (by show 64 * _ ≤ _; omega) (by omega) fun u w2 h1 h2 => ⟨_, UpM.of_below h2, h1⟩)
  refine dr_cons (isV ePg ⟨0, 0, 0, 0, List.replicate (aro a 101).toNat line0, List.replicate (aro b 101).toNat line0⟩) (by decide) (mono_isV _ _) (ob2 rfl fun M w' hs2 v1 k1 v2 k2 => ?_) ?_
  · obtain ⟨a1, c1, q1, _⟩ := SlOf.ex k1
    obtain ⟨a2, c2, q2, _⟩ := SlOf.ex k2
    refine opg (op_build (parts := [(3, .tmp 11), (4, .tmp 14)]) (vs := [v1, v2]) (pl := [(4, [v1]), (5, [v2])]) sbP rfl ⟨rfl, by rw [q1]; rfl, Nat.le_of_ble_eq_true rfl, rfl, by rw [q2]; rfl, Nat.le_of_ble_eq_true rfl, trivial⟩ ⟨_, UpM.refl _ _, ?_⟩)
    exact ePg_V.2 ⟨v1, v2, rfl, ⟨by unfold I64; simp, by unfold I64; simp, by unfold I64; simp, by unfold I64; simp⟩, k1, k2⟩
  refine dr_cons (isBox w.heap.size 1 [.int .i64 0, .int .i64 0, .int .i64 0, .int .i64 0, .slice none 0 0, .slice none 0 0] 40) (by decide) (mono_isBox _ _ _ _) (ob0 rfl fun M w' hs => opg (op_alloc 1 (hr.up hs) tdP fun b w2 M2 h1 h2 h3 => ⟨_, h3, b, rfl, h1, h2⟩)) ?_
  refine dr_nil rfl (fun M2 w2 val hs2 hall2 => ?_)
  obtain ⟨⟨bp, e7, hB, hbox⟩, h15, _⟩ := hall2
  replace hr := hr.up hs2
  refine RT.sub (fr' := [(2, .int .i64 c), (7, val 7), (15, val 15)]) ?_ (by repeat (first | exact trivial | refine ⟨rfl, ?_⟩))
  rw [e7]
  obtain ⟨vb, vn, q15, hi, hsb, hsn⟩ := ePg_V.1 h15
  rw [q15]
  obtain ⟨a1, c1, q1, _⟩ := SlOf.ex hsb
  obtain ⟨a2, c2, q2, _⟩ := SlOf.ex hsn
  refine rt_one0 (i := 8) (by kernel_rfl) rfl (op_store (c := [.int .i64 0, .int .i64 0, .int .i64 0, .int .i64 0, vb, vn]) tdP rfl rfl (by rfl) (by rw [q1, q2]; simp [Value.oneCell']) rfl hr hB hbox (Nat.le_of_ble_eq_true rfl) ?_)
  intro w3 hbox hst
  replace hsb := hsb.mono hst.x
  replace hsn := hsn.mono hst.x
  replace hr := hr.st hst
  replace hbox : Box M2 w3 bp 1 [.int .i64 0, .int .i64 0, .int .i64 0, .int .i64 0, vb, vn] 40 := hbox
  refine rt_nil (by kernel_rfl) ?_
  clear hst hs1 hs2 h15 q1 q2 e7 q15
  (repeat (first
      | refine run_seq ?_
      | refine run_region_l ?_
      | refine rl_nil ?_
      | refine rl_step (by decide) (op_move rfl ?_)
      | refine rl_step (by decide) (op_assign rfl ?_)
      | refine run_block ?_
      | refine run_inBlock ?_
      | refine run_exit rfl ?_
      | refine run_skip ?_
      | refine run_label ?_
      | refine run_true rfl ?_
      | refine run_false rfl ?_
      | refine rl_yes rfl rfl ?_
      | refine rl_no rfl rfl rfl (by decide) ?_
      | refine rl_step (by decide) (op_pick_t rfl rfl ?_)
      | refine rl_step (by decide) (op_pick_f rfl rfl ?_)
      | refine rl_step (by decide) (op_lss rfl rfl ?_)
      | refine rl_step (by decide) (op_leq rfl rfl ?_)
      | refine rl_step (by decide) (op_gtr rfl rfl ?_)
      | refine rl_step (by decide) (op_geq rfl rfl ?_)
      | refine rl_step (by decide) (op_eql rfl rfl ?_)
      | refine rl_step (by decide) (op_neq rfl rfl ?_)
      | refine rl_step (by decide) (op_not rfl ?_)
      | refine rl_step (by decide) (op_min rfl rfl ?_)
      | refine rl_step (by decide) (op_max rfl rfl ?_)
      | refine rl_step (by decide) (op_extract rfl rfl ?_)
      | refine rl_step (by decide) (op_add rfl rfl (by omega) ?_)
      | refine rl_step (by decide) (op_sub rfl rfl (by omega) ?_)
      | refine rl_step (by decide) (op_neg rfl (by omega) ?_)))
  refine rl_step (by decide) (op_call ent24 rfl (bound03 _ _ _ hc (by omega)) ?_)
  rintro _ w4 ⟨rfl, rfl⟩
  (repeat (first
      | refine run_seq ?_
      | refine run_region_l ?_
      | refine rl_nil ?_
      | refine rl_step (by decide) (op_move rfl ?_)
      | refine rl_step (by decide) (op_assign rfl ?_)
      | refine run_block ?_
      | refine run_inBlock ?_
      | refine run_exit rfl ?_
      | refine run_skip ?_
      | refine run_label ?_
      | refine run_true rfl ?_
      | refine run_false rfl ?_
      | refine rl_yes rfl rfl ?_
      | refine rl_no rfl rfl rfl (by decide) ?_
      | refine rl_step (by decide) (op_pick_t rfl rfl ?_)
      | refine rl_step (by decide) (op_pick_f rfl rfl ?_)
      | refine rl_step (by decide) (op_lss rfl rfl ?_)
      | refine rl_step (by decide) (op_leq rfl rfl ?_)
      | refine rl_step (by decide) (op_gtr rfl rfl ?_)
      | refine rl_step (by decide) (op_geq rfl rfl ?_)
      | refine rl_step (by decide) (op_eql rfl rfl ?_)
      | refine rl_step (by decide) (op_neq rfl rfl ?_)
      | refine rl_step (by decide) (op_not rfl ?_)
      | refine rl_step (by decide) (op_min rfl rfl ?_)
      | refine rl_step (by decide) (op_max rfl rfl ?_)
      | refine rl_step (by decide) (op_extract rfl rfl ?_)
      | refine rl_step (by decide) (op_add rfl rfl (by omega) ?_)
      | refine rl_step (by decide) (op_sub rfl rfl (by omega) ?_)
      | refine rl_step (by decide) (op_neg rfl (by omega) ?_)))
  have hV : ∀ M' w', UpM M2 w4 M' w' → ePg.V M' w' (.agg #[.int .i64 0, .int .i64 0, .int .i64 0, .int .i64 0, vb, vn]) ⟨0, 0, 0, 0, List.replicate (aro a 101).toNat line0, List.replicate (aro b 101).toNat line0⟩ :=
    fun M' w' s => ePg_V.2 ⟨vb, vn, rfl, hi, hsb.mono s.x, hsn.mono s.x⟩
  have bh : -1152921504606846976 ≤ aro c (2 * 1073741824 + 1) - 1073741824 ∧ aro c (2 * 1073741824 + 1) - 1073741824 ≤ 1152921504606846976 := by omega
  generalize aro c (2 * 1073741824 + 1) - 1073741824 = h at bh ⊢
  refine region_dr (M := M2) 10 1 [] mixed rfl (by kernel_rfl) (fun w1 hs1 => ?_)
  replace hr := hr.up hs1
  replace hbox := hbox.up hs1
  replace hV := fun M' w' s => hV M' w' (hs1.trans s)
  refine dr_cons (isV ePg ⟨0, 0, 0, 0, List.replicate (aro a 101).toNat line0, List.replicate (aro b 101).toNat line0⟩) (by decide) (mono_isV _ _) (ob0 rfl fun M w' hs2 => opg (op_loadn tdP rfl (hbox.up hs2) (Nat.le_of_ble_eq_true rfl) ⟨_, UpM.refl _ _, hV _ _ hs2⟩)) ?_
  refine dr_cons (isv _) (by decide) (mono_isv _) (ob0 rfl fun M w hs => opg (op_move rfl ⟨_, UpM.refl _ _, rfl⟩)) ?_
  refine dr_cons (isv (.int .i64 (max (h - (List.replicate (aro a 101).toNat line0).length - (List.replicate (aro b 101).toNat line0).length - min ((List.replicate (aro b 101).toNat line0).length : Int) 1) 0))) (by decide) (mono_isv _) (ob2 rfl fun M w' hs2 v1 k1 v2 k2 => ?_) ?_
  · cases k2
    exact opg (op_call ent25 rfl (room_p _ _ _ _ _ (hs2.mb hr.mb) k1 bh) fun u w2 hu => ⟨_, UpM.of_below hu.2, hu.1⟩)
  refine dr_cons (isV ePg ⟨0, 0, 0, 0, List.replicate (aro a 101).toNat line0, List.replicate (aro b 101).toNat line0⟩) (by decide) (mono_isV _ _) (ob0 rfl fun M w' hs2 => opg (op_loadn tdP rfl (hbox.up hs2) (Nat.le_of_ble_eq_true rfl) ⟨_, UpM.refl _ _, hV _ _ hs2⟩)) ?_
  refine dr_cons (isv _) (by decide) (mono_isv _) (ob0 rfl fun M w hs => opg (op_move rfl ⟨_, UpM.refl _ _, rfl⟩)) ?_
  refine dr_cons (isv (.int .i64 (max (h - (List.replicate (aro a 101).toNat line0).length - (List.replicate (aro b 101).toNat line0).length - min ((List.replicate (aro b 101).toNat line0).length : Int) 1) 0))) (by decide) (mono_isv _) (ob2 rfl fun M w' hs2 v1 k1 v2 k2 => ?_) ?_
  · cases k2
    exact opg (op_call ent26 rfl (room_r _ _ _ _ _ (hs2.mb hr.mb) k1 bh) fun u w2 hu => ⟨_, UpM.of_below hu.2, hu.1⟩)
  refine dr_cons (isv (.bool true)) (by decide) (mono_isv _) (ob2 rfl fun M w' hs2 v1 k1 v2 k2 => ?_) ?_
  · cases k1; cases k2; exact opg (op_eql rfl rfl ⟨_, UpM.refl _ _, by rw [decide_eq_true rfl]; rfl⟩)
  refine dr_cons (isv (.bool true)) (by decide) (mono_isv _) (ob1 rfl fun M w' hs2 v1 k1 => ?_) ?_
  · cases k1; exact opg (op_move rfl ⟨_, UpM.refl _ _, rfl⟩)
  refine dr_cons (isv (.bool true)) (by decide) (mono_isv _) (ob1 rfl fun M w' hs2 v1 k1 => ?_) ?_
  · cases k1
    exact opg_yes rfl rfl (op_call ent22 rfl (lives_c _ _ (hs2.mb hr.mb)) fun u w2 hu => ⟨_, UpM.of_below hu.2, hu.1⟩)
  refine dr_cons (isv (.bool true)) (by decide) (mono_isv _) (ob2 rfl fun M w' hs2 v1 k1 v2 k2 => ?_) ?_
  · cases k1; cases k2; exact opg (op_pick_t rfl rfl ⟨_, UpM.refl _ _, rfl⟩)
  refine dr_nil rfl (fun M3 w4 val hs2 hall => ?_)
  obtain ⟨h27, _⟩ := hall
  have e27 : val 27 = _ := h27
  refine RT.sub (fr' := [(27, val 27)]) ?_ (by repeat (first | exact trivial | refine ⟨rfl, ?_⟩))
  rw [e27]
  refine rt_one (i := 10) (by kernel_rfl) rfl (by decide) (op_assign rfl ?_)
  refine rt_nil (by kernel_rfl) ?_
  (repeat (first
      | refine run_seq ?_
      | refine run_region_l ?_
      | refine rl_nil ?_
      | refine rl_step (by decide) (op_move rfl ?_)
      | refine rl_step (by decide) (op_assign rfl ?_)
      | refine run_block ?_
      | refine run_inBlock ?_
      | refine run_exit rfl ?_
      | refine run_skip ?_
      | refine run_label ?_
      | refine run_true rfl ?_
      | refine run_false rfl ?_
      | refine rl_yes rfl rfl ?_
      | refine rl_no rfl rfl rfl (by decide) ?_
      | refine rl_step (by decide) (op_pick_t rfl rfl ?_)
      | refine rl_step (by decide) (op_pick_f rfl rfl ?_)
      | refine rl_step (by decide) (op_lss rfl rfl ?_)
      | refine rl_step (by decide) (op_leq rfl rfl ?_)
      | refine rl_step (by decide) (op_gtr rfl rfl ?_)
      | refine rl_step (by decide) (op_geq rfl rfl ?_)
      | refine rl_step (by decide) (op_eql rfl rfl ?_)
      | refine rl_step (by decide) (op_neq rfl rfl ?_)
      | refine rl_step (by decide) (op_not rfl ?_)
      | refine rl_step (by decide) (op_min rfl rfl ?_)
      | refine rl_step (by decide) (op_max rfl rfl ?_)
      | refine rl_step (by decide) (op_extract rfl rfl ?_)
      | refine rl_step (by decide) (op_add rfl rfl (by omega) ?_)
      | refine rl_step (by decide) (op_sub rfl rfl (by omega) ?_)
      | refine rl_step (by decide) (op_neg rfl (by omega) ?_)))
  refine run_ret1 Try.func5 rfl rfl ?_
  exact ⟨rfl, (hr.up hs2).bel⟩

end Go.Proofs.Ytocoinkhbjlbhaa
