/-
  Walks: equal lists are found equal.
-/
import Derived.Test.YtocoinkhbjlbhaaS9
namespace Go.Proofs.Ytocoinkhbjlbhaa
open Go Go.RowKit

theorem sameInts_c (M : Mut) (va vb : Value) (l : List Int) (w : World) (hm : MB M w) (hsa : SlOf eI M w va l) (hsb : SlOf eI M w vb l) :
    CallsV Try.prog 54 [va, vb] w (fun u w' => u = .bool true ∧ Below w.heap.size w w') := by
  have hr := Rn.refl hm
  have hl := i_len hsa
  refine callsV_of_run Try.func54 rfl Try.ntmps54 (Nat.le_of_ble_eq_true rfl) ?_
  (repeat (first
      | refine run_seq ?_
      | refine run_region_l ?_
      | refine rl_nil ?_
      | refine rl_step (by decide) (op_move rfl ?_)
      | refine rl_step (by decide) (op_assign rfl ?_)
      | refine run_block ?_
      | refine run_inBlock ?_
      | refine run_exit rfl ?_
      | refine run_skip ?_
      | refine run_label ?_
      | refine run_true rfl ?_
      | refine run_false rfl ?_
      | refine rl_yes rfl rfl ?_
      | refine rl_no rfl rfl rfl (by decide) ?_
      | refine rl_step (by decide) (op_pick_t rfl rfl ?_)
      | refine rl_step (by decide) (op_pick_f rfl rfl ?_)
      | refine rl_step (by decide) (op_lss rfl rfl ?_)
      | refine rl_step (by decide) (op_leq rfl rfl ?_)
      | refine rl_step (by decide) (op_gtr rfl rfl ?_)
      | refine rl_step (by decide) (op_geq rfl rfl ?_)
      | refine rl_step (by decide) (op_eql rfl rfl ?_)
      | refine rl_step (by decide) (op_neq rfl rfl ?_)
      | refine rl_step (by decide) (op_not rfl ?_)
      | refine rl_step (by decide) (op_min rfl rfl ?_)
      | refine rl_step (by decide) (op_max rfl rfl ?_)
      | refine rl_step (by decide) (op_extract rfl rfl ?_)
      | refine rl_step (by decide) (op_add rfl rfl (by omega) ?_)
      | refine rl_step (by decide) (op_sub rfl rfl (by omega) ?_)
      | refine rl_step (by decide) (op_neg rfl (by omega) ?_)))
  refine rl_step (by decide) (op_len uI rfl hsa ?_)
  (repeat (first
      | refine run_seq ?_
      | refine run_region_l ?_
      | refine rl_nil ?_
      | refine rl_step (by decide) (op_move rfl ?_)
      | refine rl_step (by decide) (op_assign rfl ?_)
      | refine run_block ?_
      | refine run_inBlock ?_
      | refine run_exit rfl ?_
      | refine run_skip ?_
      | refine run_label ?_
      | refine run_true rfl ?_
      | refine run_false rfl ?_
      | refine rl_yes rfl rfl ?_
      | refine rl_no rfl rfl rfl (by decide) ?_
      | refine rl_step (by decide) (op_pick_t rfl rfl ?_)
      | refine rl_step (by decide) (op_pick_f rfl rfl ?_)
      | refine rl_step (by decide) (op_lss rfl rfl ?_)
      | refine rl_step (by decide) (op_leq rfl rfl ?_)
      | refine rl_step (by decide) (op_gtr rfl rfl ?_)
      | refine rl_step (by decide) (op_geq rfl rfl ?_)
      | refine rl_step (by decide) (op_eql rfl rfl ?_)
      | refine rl_step (by decide) (op_neq rfl rfl ?_)
      | refine rl_step (by decide) (op_not rfl ?_)
      | refine rl_step (by decide) (op_min rfl rfl ?_)
      | refine rl_step (by decide) (op_max rfl rfl ?_)
      | refine rl_step (by decide) (op_extract rfl rfl ?_)
      | refine rl_step (by decide) (op_add rfl rfl (by omega) ?_)
      | refine rl_step (by decide) (op_sub rfl rfl (by omega) ?_)
      | refine rl_step (by decide) (op_neg rfl (by omega) ?_)))
  refine rl_step (by decide) (op_len uI rfl hsb ?_)
  (repeat (first
      | refine run_seq ?_
      | refine run_region_l ?_
      | refine rl_nil ?_
      | refine rl_step (by decide) (op_move rfl ?_)
      | refine rl_step (by decide) (op_assign rfl ?_)
      | refine run_block ?_
      | refine run_inBlock ?_
      | refine run_exit rfl ?_
      | refine run_skip ?_
      | refine run_label ?_
      | refine run_true rfl ?_
      | refine run_false rfl ?_
      | refine rl_yes rfl rfl ?_
      | refine rl_no rfl rfl rfl (by decide) ?_
      | refine rl_step (by decide) (op_pick_t rfl rfl ?_)
      | refine rl_step (by decide) (op_pick_f rfl rfl ?_)
      | refine rl_step (by decide) (op_lss rfl rfl ?_)
      | refine rl_step (by decide) (op_leq rfl rfl ?_)
      | refine rl_step (by decide) (op_gtr rfl rfl ?_)
      | refine rl_step (by decide) (op_geq rfl rfl ?_)
      | refine rl_step (by decide) (op_eql rfl rfl ?_)
      | refine rl_step (by decide) (op_neq rfl rfl ?_)
      | refine rl_step (by decide) (op_not rfl ?_)
      | refine rl_step (by decide) (op_min rfl rfl ?_)
      | refine rl_step (by decide) (op_max rfl rfl ?_)
      | refine rl_step (by decide) (op_extract rfl rfl ?_)
      | refine rl_step (by decide) (op_add rfl rfl (by omega) ?_)
      | refine rl_step (by decide) (op_sub rfl rfl (by omega) ?_)
      | refine rl_step (by decide) (op_neg rfl (by omega) ?_)))
  refine run_if rfl (fun h => absurd rfl h) (fun _ => ?_)
  (repeat (first
      | refine run_seq ?_
      | refine run_region_l ?_
      | refine rl_nil ?_
      | refine rl_step (by decide) (op_move rfl ?_)
      | refine rl_step (by decide) (op_assign rfl ?_)
      | refine run_block ?_
      | refine run_inBlock ?_
      | refine run_exit rfl ?_
      | refine run_skip ?_
      | refine run_label ?_
      | refine run_true rfl ?_
      | refine run_false rfl ?_
      | refine rl_yes rfl rfl ?_
      | refine rl_no rfl rfl rfl (by decide) ?_
      | refine rl_step (by decide) (op_pick_t rfl rfl ?_)
      | refine rl_step (by decide) (op_pick_f rfl rfl ?_)
      | refine rl_step (by decide) (op_lss rfl rfl ?_)
      | refine rl_step (by decide) (op_leq rfl rfl ?_)
      | refine rl_step (by decide) (op_gtr rfl rfl ?_)
      | refine rl_step (by decide) (op_geq rfl rfl ?_)
      | refine rl_step (by decide) (op_eql rfl rfl ?_)
      | refine rl_step (by decide) (op_neq rfl rfl ?_)
      | refine rl_step (by decide) (op_not rfl ?_)
      | refine rl_step (by decide) (op_min rfl rfl ?_)
      | refine rl_step (by decide) (op_max rfl rfl ?_)
      | refine rl_step (by decide) (op_extract rfl rfl ?_)
      | refine rl_step (by decide) (op_add rfl rfl (by omega) ?_)
      | refine rl_step (by decide) (op_sub rfl rfl (by omega) ?_)
      | refine rl_step (by decide) (op_neg rfl (by omega) ?_)))
  refine (run_loop (α := Nat × Mut) (fun x => [(0, va), (1, vb), (5, .int .i64 x.1)])
    (fun x w' => x.1 ≤ l.length ∧ Rn M w x.2 w' ∧ SlOf eI x.2 w' va l ∧ SlOf eI x.2 w' vb l) (fun x => l.length - x.1) (0, M) ⟨Nat.zero_le _, hr, hsa, hsb⟩ ?_).sub (by repeat (first | exact trivial | refine ⟨rfl, ?_⟩))
  clear hr hsa hsb
  rintro ⟨i, M1⟩ w1 ⟨hi, hr, hsa, hsb⟩ ih
  simp only at hi hr hsa hsb ih
  try dsimp only
  (repeat (first
      | refine run_seq ?_
      | refine run_region_l ?_
      | refine rl_nil ?_
      | refine rl_step (by decide) (op_move rfl ?_)
      | refine rl_step (by decide) (op_assign rfl ?_)
      | refine run_block ?_
      | refine run_inBlock ?_
      | refine run_exit rfl ?_
      | refine run_skip ?_
      | refine run_label ?_
      | refine run_true rfl ?_
      | refine run_false rfl ?_
      | refine rl_yes rfl rfl ?_
      | refine rl_no rfl rfl rfl (by decide) ?_
      | refine rl_step (by decide) (op_pick_t rfl rfl ?_)
      | refine rl_step (by decide) (op_pick_f rfl rfl ?_)
      | refine rl_step (by decide) (op_lss rfl rfl ?_)
      | refine rl_step (by decide) (op_leq rfl rfl ?_)
      | refine rl_step (by decide) (op_gtr rfl rfl ?_)
      | refine rl_step (by decide) (op_geq rfl rfl ?_)
      | refine rl_step (by decide) (op_eql rfl rfl ?_)
      | refine rl_step (by decide) (op_neq rfl rfl ?_)
      | refine rl_step (by decide) (op_not rfl ?_)
      | refine rl_step (by decide) (op_min rfl rfl ?_)
      | refine rl_step (by decide) (op_max rfl rfl ?_)
      | refine rl_step (by decide) (op_extract rfl rfl ?_)
      | refine rl_step (by decide) (op_add rfl rfl (by omega) ?_)
      | refine rl_step (by decide) (op_sub rfl rfl (by omega) ?_)
      | refine rl_step (by decide) (op_neg rfl (by omega) ?_)))
  refine rl_step (by decide) (op_len uI rfl hsa ?_)
  (repeat (first
      | refine run_seq ?_
      | refine run_region_l ?_
      | refine rl_nil ?_
      | refine rl_step (by decide) (op_move rfl ?_)
      | refine rl_step (by decide) (op_assign rfl ?_)
      | refine run_block ?_
      | refine run_inBlock ?_
      | refine run_exit rfl ?_
      | refine run_skip ?_
      | refine run_label ?_
      | refine run_true rfl ?_
      | refine run_false rfl ?_
      | refine rl_yes rfl rfl ?_
      | refine rl_no rfl rfl rfl (by decide) ?_
      | refine rl_step (by decide) (op_pick_t rfl rfl ?_)
      | refine rl_step (by decide) (op_pick_f rfl rfl ?_)
      | refine rl_step (by decide) (op_lss rfl rfl ?_)
      | refine rl_step (by decide) (op_leq rfl rfl ?_)
      | refine rl_step (by decide) (op_gtr rfl rfl ?_)
      | refine rl_step (by decide) (op_geq rfl rfl ?_)
      | refine rl_step (by decide) (op_eql rfl rfl ?_)
      | refine rl_step (by decide) (op_neq rfl rfl ?_)
      | refine rl_step (by decide) (op_not rfl ?_)
      | refine rl_step (by decide) (op_min rfl rfl ?_)
      | refine rl_step (by decide) (op_max rfl rfl ?_)
      | refine rl_step (by decide) (op_extract rfl rfl ?_)
      | refine rl_step (by decide) (op_add rfl rfl (by omega) ?_)
      | refine rl_step (by decide) (op_sub rfl rfl (by omega) ?_)
      | refine rl_step (by decide) (op_neg rfl (by omega) ?_)))
  refine run_if rfl (fun hlt => ?_) (fun hlt => ?_)
  · have hlt' : i < l.length := by omega
    (repeat (first
        | refine run_seq ?_
        | refine run_region_l ?_
        | refine rl_nil ?_
        | refine rl_step (by decide) (op_move rfl ?_)
        | refine rl_step (by decide) (op_assign rfl ?_)
        | refine run_block ?_
        | refine run_inBlock ?_
        | refine run_exit rfl ?_
        | refine run_skip ?_
        | refine run_label ?_
        | refine run_true rfl ?_
        | refine run_false rfl ?_
        | refine rl_yes rfl rfl ?_
        | refine rl_no rfl rfl rfl (by decide) ?_
        | refine rl_step (by decide) (op_pick_t rfl rfl ?_)
        | refine rl_step (by decide) (op_pick_f rfl rfl ?_)
        | refine rl_step (by decide) (op_lss rfl rfl ?_)
        | refine rl_step (by decide) (op_leq rfl rfl ?_)
        | refine rl_step (by decide) (op_gtr rfl rfl ?_)
        | refine rl_step (by decide) (op_geq rfl rfl ?_)
        | refine rl_step (by decide) (op_eql rfl rfl ?_)
        | refine rl_step (by decide) (op_neq rfl rfl ?_)
        | refine rl_step (by decide) (op_not rfl ?_)
        | refine rl_step (by decide) (op_min rfl rfl ?_)
        | refine rl_step (by decide) (op_max rfl rfl ?_)
        | refine rl_step (by decide) (op_extract rfl rfl ?_)
        | refine rl_step (by decide) (op_add rfl rfl (by omega) ?_)
        | refine rl_step (by decide) (op_sub rfl rfl (by omega) ?_)
        | refine rl_step (by decide) (op_neg rfl (by omega) ?_)))
    refine region_dr (M := M1) 8 1 [] mixed rfl (by kernel_rfl) (fun w1 hs1 => ?_)
    replace hsa := hsa.mono hs1.x
    replace hsb := hsb.mono hs1.x
    replace hr := hr.up hs1
    refine dr_cons (isv va) (by decide) (mono_isv _) (ob0 rfl fun M w' hs2 => ?_) ?_
    · exact opg (op_move rfl ⟨_, UpM.refl _ _, rfl⟩)
    refine dr_cons (isv (.int .i64 i)) (by decide) (mono_isv _) (ob0 rfl fun M w' hs2 => ?_) ?_
    · exact opg (op_move rfl ⟨_, UpM.refl _ _, rfl⟩)
    refine dr_cons (isPtr eI l[i]) (by decide) (mono_isPtr _ _) (ob2 rfl fun M w' hs2 v1 k1 v2 k2 => ?_) ?_
    · cases k1; cases k2; exact opg (op_indexAddr uI teI rfl rfl (hsa.mono hs2.x) (by omega) fun ad hn he => ⟨_, UpM.refl _ _, ad, rfl, he⟩)
    refine dr_cons (isv (.int .i64 l[i])) (by decide) (mono_isv _) (ob1 rfl fun M w' hs2 v1 k1 => ?_) ?_
    · obtain ⟨ad1, rfl, he1⟩ := k1; exact opg (op_load teI rfl he1 fun u hu => ⟨_, UpM.refl _ _, (eI_V.1 hu).1⟩)
    refine dr_cons (isv vb) (by decide) (mono_isv _) (ob0 rfl fun M w' hs2 => ?_) ?_
    · exact opg (op_move rfl ⟨_, UpM.refl _ _, rfl⟩)
    refine dr_cons (isv (.int .i64 i)) (by decide) (mono_isv _) (ob0 rfl fun M w' hs2 => ?_) ?_
    · exact opg (op_move rfl ⟨_, UpM.refl _ _, rfl⟩)
    refine dr_cons (isPtr eI l[i]) (by decide) (mono_isPtr _ _) (ob2 rfl fun M w' hs2 v1 k1 v2 k2 => ?_) ?_
    · cases k1; cases k2; exact opg (op_indexAddr uI teI rfl rfl (hsb.mono hs2.x) (by omega) fun ad hn he => ⟨_, UpM.refl _ _, ad, rfl, he⟩)
    refine dr_cons (isv (.int .i64 l[i])) (by decide) (mono_isv _) (ob1 rfl fun M w' hs2 v1 k1 => ?_) ?_
    · obtain ⟨ad1, rfl, he1⟩ := k1; exact opg (op_load teI rfl he1 fun u hu => ⟨_, UpM.refl _ _, (eI_V.1 hu).1⟩)
    refine dr_nil rfl (fun M3 w4 val hs2 hall => ?_)
    obtain ⟨h24, _, _, _, h20, _⟩ := hall
    have e24 : val 24 = _ := h24; have e20 : val 20 = _ := h20
    replace hsa := hsa.mono hs2.x
    replace hsb := hsb.mono hs2.x
    replace hr := hr.up hs2
    refine RT.sub (fr' := [(0, va), (1, vb), (5, .int .i64 i), (20, val 20), (24, val 24)]) ?_ (by repeat (first | exact trivial | refine ⟨rfl, ?_⟩))
    rw [e20, e24]
    refine rt_one (i := 8) (by kernel_rfl) rfl (by decide) (op_neq rfl rfl ?_)
    refine rt_nil (by kernel_rfl) ?_
    (repeat (first
        | refine run_seq ?_
        | refine run_region_l ?_
        | refine rl_nil ?_
        | refine rl_step (by decide) (op_move rfl ?_)
        | refine rl_step (by decide) (op_assign rfl ?_)
        | refine run_block ?_
        | refine run_inBlock ?_
        | refine run_exit rfl ?_
        | refine run_skip ?_
        | refine run_label ?_
        | refine run_true rfl ?_
        | refine run_false rfl ?_
        | refine rl_yes rfl rfl ?_
        | refine rl_no rfl rfl rfl (by decide) ?_
        | refine rl_step (by decide) (op_pick_t rfl rfl ?_)
        | refine rl_step (by decide) (op_pick_f rfl rfl ?_)
        | refine rl_step (by decide) (op_lss rfl rfl ?_)
        | refine rl_step (by decide) (op_leq rfl rfl ?_)
        | refine rl_step (by decide) (op_gtr rfl rfl ?_)
        | refine rl_step (by decide) (op_geq rfl rfl ?_)
        | refine rl_step (by decide) (op_eql rfl rfl ?_)
        | refine rl_step (by decide) (op_neq rfl rfl ?_)
        | refine rl_step (by decide) (op_not rfl ?_)
        | refine rl_step (by decide) (op_min rfl rfl ?_)
        | refine rl_step (by decide) (op_max rfl rfl ?_)
        | refine rl_step (by decide) (op_extract rfl rfl ?_)
        | refine rl_step (by decide) (op_add rfl rfl (by omega) ?_)
        | refine rl_step (by decide) (op_sub rfl rfl (by omega) ?_)
        | refine rl_step (by decide) (op_neg rfl (by omega) ?_)))
    refine run_if rfl (fun h => absurd rfl h) (fun _ => ?_)
    (repeat (first
        | refine run_seq ?_
        | refine run_region_l ?_
        | refine rl_nil ?_
        | refine rl_step (by decide) (op_move rfl ?_)
        | refine rl_step (by decide) (op_assign rfl ?_)
        | refine run_block ?_
        | refine run_inBlock ?_
        | refine run_exit rfl ?_
        | refine run_skip ?_
        | refine run_label ?_
        | refine run_true rfl ?_
        | refine run_false rfl ?_
        | refine rl_yes rfl rfl ?_
        | refine rl_no rfl rfl rfl (by decide) ?_
        | refine rl_step (by decide) (op_pick_t rfl rfl ?_)
        | refine rl_step (by decide) (op_pick_f rfl rfl ?_)
        | refine rl_step (by decide) (op_lss rfl rfl ?_)
        | refine rl_step (by decide) (op_leq rfl rfl ?_)
        | refine rl_step (by decide) (op_gtr rfl rfl ?_)
        | refine rl_step (by decide) (op_geq rfl rfl ?_)
        | refine rl_step (by decide) (op_eql rfl rfl ?_)
        | refine rl_step (by decide) (op_neq rfl rfl ?_)
        | refine rl_step (by decide) (op_not rfl ?_)
        | refine rl_step (by decide) (op_min rfl rfl ?_)
        | refine rl_step (by decide) (op_max rfl rfl ?_)
        | refine rl_step (by decide) (op_extract rfl rfl ?_)
        | refine rl_step (by decide) (op_add rfl rfl (by omega) ?_)
        | refine rl_step (by decide) (op_sub rfl rfl (by omega) ?_)
        | refine rl_step (by decide) (op_neg rfl (by omega) ?_)))
    exact (ih (i + 1, M3) _ ⟨by simp only; omega, hr, hsa, hsb⟩ (by simp only; omega)).sub (by repeat (first | exact trivial | refine ⟨rfl, ?_⟩))
  · (repeat (first
        | refine run_seq ?_
        | refine run_region_l ?_
        | refine rl_nil ?_
        | refine rl_step (by decide) (op_move rfl ?_)
        | refine rl_step (by decide) (op_assign rfl ?_)
        | refine run_block ?_
        | refine run_inBlock ?_
        | refine run_exit rfl ?_
        | refine run_skip ?_
        | refine run_label ?_
        | refine run_true rfl ?_
        | refine run_false rfl ?_
        | refine rl_yes rfl rfl ?_
        | refine rl_no rfl rfl rfl (by decide) ?_
        | refine rl_step (by decide) (op_pick_t rfl rfl ?_)
        | refine rl_step (by decide) (op_pick_f rfl rfl ?_)
        | refine rl_step (by decide) (op_lss rfl rfl ?_)
        | refine rl_step (by decide) (op_leq rfl rfl ?_)
        | refine rl_step (by decide) (op_gtr rfl rfl ?_)
        | refine rl_step (by decide) (op_geq rfl rfl ?_)
        | refine rl_step (by decide) (op_eql rfl rfl ?_)
        | refine rl_step (by decide) (op_neq rfl rfl ?_)
        | refine rl_step (by decide) (op_not rfl ?_)
        | refine rl_step (by decide) (op_min rfl rfl ?_)
        | refine rl_step (by decide) (op_max rfl rfl ?_)
        | refine rl_step (by decide) (op_extract rfl rfl ?_)
        | refine rl_step (by decide) (op_add rfl rfl (by omega) ?_)
        | refine rl_step (by decide) (op_sub rfl rfl (by omega) ?_)
        | refine rl_step (by decide) (op_neg rfl (by omega) ?_)))
    refine run_ret1 Try.func54 rfl rfl ?_
    exact ⟨rfl, hr.bel⟩

set_option maxHeartbeats 2000000 in
theorem sameLines_c (M : Mut) (va vb : Value) (l : List Line) (w : World) (hm : MB M w) (hsa : SlOf eLine M w va l) (hsb : SlOf eLine M w vb l) :
    CallsV Try.prog 27 [va, vb] w (fun u w' => u = .bool true ∧ Below w.heap.size w w') := by
  have hr := Rn.refl hm
  have hl := pg_len hsa
  refine callsV_of_run Try.func27 rfl Try.ntmps27 (Nat.le_of_ble_eq_true rfl) ?_
  (repeat (first
      | refine run_seq ?_
      | refine run_region_l ?_
      | refine rl_nil ?_
      | refine rl_step (by decide) (op_move rfl ?_)
      | refine rl_step (by decide) (op_assign rfl ?_)
      | refine run_block ?_
      | refine run_inBlock ?_
      | refine run_exit rfl ?_
      | refine run_skip ?_
      | refine run_label ?_
      | refine run_true rfl ?_
      | refine run_false rfl ?_
      | refine rl_yes rfl rfl ?_
      | refine rl_no rfl rfl rfl (by decide) ?_
      | refine rl_step (by decide) (op_pick_t rfl rfl ?_)
      | refine rl_step (by decide) (op_pick_f rfl rfl ?_)
      | refine rl_step (by decide) (op_lss rfl rfl ?_)
      | refine rl_step (by decide) (op_leq rfl rfl ?_)
      | refine rl_step (by decide) (op_gtr rfl rfl ?_)
      | refine rl_step (by decide) (op_geq rfl rfl ?_)
      | refine rl_step (by decide) (op_eql rfl rfl ?_)
      | refine rl_step (by decide) (op_neq rfl rfl ?_)
      | refine rl_step (by decide) (op_not rfl ?_)
      | refine rl_step (by decide) (op_min rfl rfl ?_)
      | refine rl_step (by decide) (op_max rfl rfl ?_)
      | refine rl_step (by decide) (op_extract rfl rfl ?_)
      | refine rl_step (by decide) (op_add rfl rfl (by omega) ?_)
      | refine rl_step (by decide) (op_sub rfl rfl (by omega) ?_)
      | refine rl_step (by decide) (op_neg rfl (by omega) ?_)))
  refine rl_step (by decide) (op_len uL rfl hsa ?_)
  (repeat (first
      | refine run_seq ?_
      | refine run_region_l ?_
      | refine rl_nil ?_
      | refine rl_step (by decide) (op_move rfl ?_)
      | refine rl_step (by decide) (op_assign rfl ?_)
      | refine run_block ?_
      | refine run_inBlock ?_
      | refine run_exit rfl ?_
      | refine run_skip ?_
      | refine run_label ?_
      | refine run_true rfl ?_
      | refine run_false rfl ?_
      | refine rl_yes rfl rfl ?_
      | refine rl_no rfl rfl rfl (by decide) ?_
      | refine rl_step (by decide) (op_pick_t rfl rfl ?_)
      | refine rl_step (by decide) (op_pick_f rfl rfl ?_)
      | refine rl_step (by decide) (op_lss rfl rfl ?_)
      | refine rl_step (by decide) (op_leq rfl rfl ?_)
      | refine rl_step (by decide) (op_gtr rfl rfl ?_)
      | refine rl_step (by decide) (op_geq rfl rfl ?_)
      | refine rl_step (by decide) (op_eql rfl rfl ?_)
      | refine rl_step (by decide) (op_neq rfl rfl ?_)
      | refine rl_step (by decide) (op_not rfl ?_)
      | refine rl_step (by decide) (op_min rfl rfl ?_)
      | refine rl_step (by decide) (op_max rfl rfl ?_)
      | refine rl_step (by decide) (op_extract rfl rfl ?_)
      | refine rl_step (by decide) (op_add rfl rfl (by omega) ?_)
      | refine rl_step (by decide) (op_sub rfl rfl (by omega) ?_)
      | refine rl_step (by decide) (op_neg rfl (by omega) ?_)))
  refine rl_step (by decide) (op_len uL rfl hsb ?_)
  (repeat (first
      | refine run_seq ?_
      | refine run_region_l ?_
      | refine rl_nil ?_
      | refine rl_step (by decide) (op_move rfl ?_)
      | refine rl_step (by decide) (op_assign rfl ?_)
      | refine run_block ?_
      | refine run_inBlock ?_
      | refine run_exit rfl ?_
      | refine run_skip ?_
      | refine run_label ?_
      | refine run_true rfl ?_
      | refine run_false rfl ?_
      | refine rl_yes rfl rfl ?_
      | refine rl_no rfl rfl rfl (by decide) ?_
      | refine rl_step (by decide) (op_pick_t rfl rfl ?_)
      | refine rl_step (by decide) (op_pick_f rfl rfl ?_)
      | refine rl_step (by decide) (op_lss rfl rfl ?_)
      | refine rl_step (by decide) (op_leq rfl rfl ?_)
      | refine rl_step (by decide) (op_gtr rfl rfl ?_)
      | refine rl_step (by decide) (op_geq rfl rfl ?_)
      | refine rl_step (by decide) (op_eql rfl rfl ?_)
      | refine rl_step (by decide) (op_neq rfl rfl ?_)
      | refine rl_step (by decide) (op_not rfl ?_)
      | refine rl_step (by decide) (op_min rfl rfl ?_)
      | refine rl_step (by decide) (op_max rfl rfl ?_)
      | refine rl_step (by decide) (op_extract rfl rfl ?_)
      | refine rl_step (by decide) (op_add rfl rfl (by omega) ?_)
      | refine rl_step (by decide) (op_sub rfl rfl (by omega) ?_)
      | refine rl_step (by decide) (op_neg rfl (by omega) ?_)))
  refine run_if rfl (fun h => absurd rfl h) (fun _ => ?_)
  (repeat (first
      | refine run_seq ?_
      | refine run_region_l ?_
      | refine rl_nil ?_
      | refine rl_step (by decide) (op_move rfl ?_)
      | refine rl_step (by decide) (op_assign rfl ?_)
      | refine run_block ?_
      | refine run_inBlock ?_
      | refine run_exit rfl ?_
      | refine run_skip ?_
      | refine run_label ?_
      | refine run_true rfl ?_
      | refine run_false rfl ?_
      | refine rl_yes rfl rfl ?_
      | refine rl_no rfl rfl rfl (by decide) ?_
      | refine rl_step (by decide) (op_pick_t rfl rfl ?_)
      | refine rl_step (by decide) (op_pick_f rfl rfl ?_)
      | refine rl_step (by decide) (op_lss rfl rfl ?_)
      | refine rl_step (by decide) (op_leq rfl rfl ?_)
      | refine rl_step (by decide) (op_gtr rfl rfl ?_)
      | refine rl_step (by decide) (op_geq rfl rfl ?_)
      | refine rl_step (by decide) (op_eql rfl rfl ?_)
      | refine rl_step (by decide) (op_neq rfl rfl ?_)
      | refine rl_step (by decide) (op_not rfl ?_)
      | refine rl_step (by decide) (op_min rfl rfl ?_)
      | refine rl_step (by decide) (op_max rfl rfl ?_)
      | refine rl_step (by decide) (op_extract rfl rfl ?_)
      | refine rl_step (by decide) (op_add rfl rfl (by omega) ?_)
      | refine rl_step (by decide) (op_sub rfl rfl (by omega) ?_)
      | refine rl_step (by decide) (op_neg rfl (by omega) ?_)))
  refine (run_loop (α := Nat × Mut) (fun x => [(0, va), (1, vb), (5, .int .i64 x.1)])
    (fun x w' => x.1 ≤ l.length ∧ Rn M w x.2 w' ∧ SlOf eLine x.2 w' va l ∧ SlOf eLine x.2 w' vb l) (fun x => l.length - x.1) (0, M) ⟨Nat.zero_le _, hr, hsa, hsb⟩ ?_).sub (by repeat (first | exact trivial | refine ⟨rfl, ?_⟩))
  clear hr hsa hsb
  rintro ⟨i, M1⟩ w1 ⟨hi, hr, hsa, hsb⟩ ih
  simp only at hi hr hsa hsb ih
  try dsimp only
  (repeat (first
      | refine run_seq ?_
      | refine run_region_l ?_
      | refine rl_nil ?_
      | refine rl_step (by decide) (op_move rfl ?_)
      | refine rl_step (by decide) (op_assign rfl ?_)
      | refine run_block ?_
      | refine run_inBlock ?_
      | refine run_exit rfl ?_
      | refine run_skip ?_
      | refine run_label ?_
      | refine run_true rfl ?_
      | refine run_false rfl ?_
      | refine rl_yes rfl rfl ?_
      | refine rl_no rfl rfl rfl (by decide) ?_
      | refine rl_step (by decide) (op_pick_t rfl rfl ?_)
      | refine rl_step (by decide) (op_pick_f rfl rfl ?_)
      | refine rl_step (by decide) (op_lss rfl rfl ?_)
      | refine rl_step (by decide) (op_leq rfl rfl ?_)
      | refine rl_step (by decide) (op_gtr rfl rfl ?_)
      | refine rl_step (by decide) (op_geq rfl rfl ?_)
      | refine rl_step (by decide) (op_eql rfl rfl ?_)
      | refine rl_step (by decide) (op_neq rfl rfl ?_)
      | refine rl_step (by decide) (op_not rfl ?_)
      | refine rl_step (by decide) (op_min rfl rfl ?_)
      | refine rl_step (by decide) (op_max rfl rfl ?_)
      | refine rl_step (by decide) (op_extract rfl rfl ?_)
      | refine rl_step (by decide) (op_add rfl rfl (by omega) ?_)
      | refine rl_step (by decide) (op_sub rfl rfl (by omega) ?_)
      | refine rl_step (by decide) (op_neg rfl (by omega) ?_)))
  refine rl_step (by decide) (op_len uL rfl hsa ?_)
  (repeat (first
      | refine run_seq ?_
      | refine run_region_l ?_
      | refine rl_nil ?_
      | refine rl_step (by decide) (op_move rfl ?_)
      | refine rl_step (by decide) (op_assign rfl ?_)
      | refine run_block ?_
      | refine run_inBlock ?_
      | refine run_exit rfl ?_
      | refine run_skip ?_
      | refine run_label ?_
      | refine run_true rfl ?_
      | refine run_false rfl ?_
      | refine rl_yes rfl rfl ?_
      | refine rl_no rfl rfl rfl (by decide) ?_
      | refine rl_step (by decide) (op_pick_t rfl rfl ?_)
      | refine rl_step (by decide) (op_pick_f rfl rfl ?_)
      | refine rl_step (by decide) (op_lss rfl rfl ?_)
      | refine rl_step (by decide) (op_leq rfl rfl ?_)
      | refine rl_step (by decide) (op_gtr rfl rfl ?_)
      | refine rl_step (by decide) (op_geq rfl rfl ?_)
      | refine rl_step (by decide) (op_eql rfl rfl ?_)
      | refine rl_step (by decide) (op_neq rfl rfl ?_)
      | refine rl_step (by decide) (op_not rfl ?_)
      | refine rl_step (by decide) (op_min rfl rfl ?_)
      | refine rl_step (by decide) (op_max rfl rfl ?_)
      | refine rl_step (by decide) (op_extract rfl rfl ?_)
      | refine rl_step (by decide) (op_add rfl rfl (by omega) ?_)
      | refine rl_step (by decide) (op_sub rfl rfl (by omega) ?_)
      | refine rl_step (by decide) (op_neg rfl (by omega) ?_)))
  refine run_if rfl (fun hlt => ?_) (fun hlt => ?_)
  · have hlt' : i < l.length := by omega
    (repeat (first
        | refine run_seq ?_
        | refine run_region_l ?_
        | refine rl_nil ?_
        | refine rl_step (by decide) (op_move rfl ?_)
        | refine rl_step (by decide) (op_assign rfl ?_)
        | refine run_block ?_
        | refine run_inBlock ?_
        | refine run_exit rfl ?_
        | refine run_skip ?_
        | refine run_label ?_
        | refine run_true rfl ?_
        | refine run_false rfl ?_
        | refine rl_yes rfl rfl ?_
        | refine rl_no rfl rfl rfl (by decide) ?_
        | refine rl_step (by decide) (op_pick_t rfl rfl ?_)
        | refine rl_step (by decide) (op_pick_f rfl rfl ?_)
        | refine rl_step (by decide) (op_lss rfl rfl ?_)
        | refine rl_step (by decide) (op_leq rfl rfl ?_)
        | refine rl_step (by decide) (op_gtr rfl rfl ?_)
        | refine rl_step (by decide) (op_geq rfl rfl ?_)
        | refine rl_step (by decide) (op_eql rfl rfl ?_)
        | refine rl_step (by decide) (op_neq rfl rfl ?_)
        | refine rl_step (by decide) (op_not rfl ?_)
        | refine rl_step (by decide) (op_min rfl rfl ?_)
        | refine rl_step (by decide) (op_max rfl rfl ?_)
        | refine rl_step (by decide) (op_extract rfl rfl ?_)
        | refine rl_step (by decide) (op_add rfl rfl (by omega) ?_)
        | refine rl_step (by decide) (op_sub rfl rfl (by omega) ?_)
        | refine rl_step (by decide) (op_neg rfl (by omega) ?_)))
    refine region_dr (M := M1) 51 1 [] mixed rfl (by kernel_rfl) (fun w1 hs1 => ?_)
    replace hsa := hsa.mono hs1.x
    replace hsb := hsb.mono hs1.x
    replace hr := hr.up hs1
    refine dr_cons (isv va) (by decide) (mono_isv _) (ob0 rfl fun M w' hs2 => ?_) ?_
    · exact opg (op_move rfl ⟨_, UpM.refl _ _, rfl⟩)
    refine dr_cons (isv (.int .i64 i)) (by decide) (mono_isv _) (ob0 rfl fun M w' hs2 => ?_) ?_
    · exact opg (op_move rfl ⟨_, UpM.refl _ _, rfl⟩)
    refine dr_cons (isPtr eLine l[i]) (by decide) (mono_isPtr _ _) (ob2 rfl fun M w' hs2 v1 k1 v2 k2 => ?_) ?_
    · cases k1; cases k2; exact opg (op_indexAddr uL teL rfl rfl (hsa.mono hs2.x) (by omega) fun ad hn he => ⟨_, UpM.refl _ _, ad, rfl, he⟩)
    refine dr_cons (isPtr eI l[i].frm) (by decide) (mono_isPtr _ _) (ob1 rfl fun M w' hs2 v1 k1 => ?_) ?_
    · obtain ⟨ad1, rfl, he1⟩ := k1; exact opg (op_fieldAddr fdL0 rfl ⟨_, UpM.refl _ _, _, rfl, he1.line.1⟩)
    refine dr_cons (isv (.int .i64 l[i].frm)) (by decide) (mono_isv _) (ob1 rfl fun M w' hs2 v1 k1 => ?_) ?_
    · obtain ⟨ad1, rfl, he1⟩ := k1; exact opg (op_load teI rfl he1 fun u hu => ⟨_, UpM.refl _ _, (eI_V.1 hu).1⟩)
    refine dr_cons (isv vb) (by decide) (mono_isv _) (ob0 rfl fun M w' hs2 => ?_) ?_
    · exact opg (op_move rfl ⟨_, UpM.refl _ _, rfl⟩)
    refine dr_cons (isv (.int .i64 i)) (by decide) (mono_isv _) (ob0 rfl fun M w' hs2 => ?_) ?_
    · exact opg (op_move rfl ⟨_, UpM.refl _ _, rfl⟩)
    refine dr_cons (isPtr eLine l[i]) (by decide) (mono_isPtr _ _) (ob2 rfl fun M w' hs2 v1 k1 v2 k2 => ?_) ?_
    · cases k1; cases k2; exact opg (op_indexAddr uL teL rfl rfl (hsb.mono hs2.x) (by omega) fun ad hn he => ⟨_, UpM.refl _ _, ad, rfl, he⟩)
    refine dr_cons (isPtr eI l[i].frm) (by decide) (mono_isPtr _ _) (ob1 rfl fun M w' hs2 v1 k1 => ?_) ?_
    · obtain ⟨ad1, rfl, he1⟩ := k1; exact opg (op_fieldAddr fdL0 rfl ⟨_, UpM.refl _ _, _, rfl, he1.line.1⟩)
    refine dr_cons (isv (.int .i64 l[i].frm)) (by decide) (mono_isv _) (ob1 rfl fun M w' hs2 v1 k1 => ?_) ?_
    · obtain ⟨ad1, rfl, he1⟩ := k1; exact opg (op_load teI rfl he1 fun u hu => ⟨_, UpM.refl _ _, (eI_V.1 hu).1⟩)
    refine dr_cons (isv (.bool false)) (by decide) (mono_isv _) (ob2 rfl fun M w' hs2 v1 k1 v2 k2 => ?_) ?_
    · cases k1; cases k2; exact opg (op_neq rfl rfl ⟨_, UpM.refl _ _, by rw [decide_eq_false (fun h => h rfl)]; rfl⟩)
    refine dr_cons (isv (.bool false)) (by decide) (mono_isv _) (ob1 rfl fun M w' hs2 v1 k1 => ?_) ?_
    · cases k1; exact opg (op_move rfl ⟨_, UpM.refl _ _, rfl⟩)
    refine dr_cons (isv va) (by decide) (mono_isv _) (ob1 rfl fun M w' hs2 v1 k1 => ?_) ?_
    · cases k1; exact opg_yes rfl rfl (op_move rfl ⟨_, UpM.refl _ _, rfl⟩)
    refine dr_cons (isv (.int .i64 i)) (by decide) (mono_isv _) (ob1 rfl fun M w' hs2 v1 k1 => ?_) ?_
    · cases k1; exact opg_yes rfl rfl (op_move rfl ⟨_, UpM.refl _ _, rfl⟩)
    refine dr_cons (isPtr eLine l[i]) (by decide) (mono_isPtr _ _) (ob3 rfl fun M w' hs2 v1 k1 v2 k2 v3 k3 => ?_) ?_
    · cases k1; cases k2; cases k3; exact opg_yes rfl rfl (op_indexAddr uL teL rfl rfl (hsa.mono hs2.x) (by omega) fun ad hn he => ⟨_, UpM.refl _ _, ad, rfl, he⟩)
    refine dr_cons (isPtr eI l[i].til) (by decide) (mono_isPtr _ _) (ob2 rfl fun M w' hs2 v1 k1 v2 k2 => ?_) ?_
    · cases k1; obtain ⟨ad2, rfl, he2⟩ := k2; exact opg_yes rfl rfl (op_fieldAddr fdL1 rfl ⟨_, UpM.refl _ _, _, rfl, he2.line.2.1⟩)
    refine dr_cons (isv (.int .i64 l[i].til)) (by decide) (mono_isv _) (ob2 rfl fun M w' hs2 v1 k1 v2 k2 => ?_) ?_
    · cases k1; obtain ⟨ad2, rfl, he2⟩ := k2; exact opg_yes rfl rfl (op_load teI rfl he2 fun u hu => ⟨_, UpM.refl _ _, (eI_V.1 hu).1⟩)
    refine dr_cons (isv vb) (by decide) (mono_isv _) (ob1 rfl fun M w' hs2 v1 k1 => ?_) ?_
    · cases k1; exact opg_yes rfl rfl (op_move rfl ⟨_, UpM.refl _ _, rfl⟩)
    refine dr_cons (isv (.int .i64 i)) (by decide) (mono_isv _) (ob1 rfl fun M w' hs2 v1 k1 => ?_) ?_
    · cases k1; exact opg_yes rfl rfl (op_move rfl ⟨_, UpM.refl _ _, rfl⟩)
    refine dr_cons (isPtr eLine l[i]) (by decide) (mono_isPtr _ _) (ob3 rfl fun M w' hs2 v1 k1 v2 k2 v3 k3 => ?_) ?_
    · cases k1; cases k2; cases k3; exact opg_yes rfl rfl (op_indexAddr uL teL rfl rfl (hsb.mono hs2.x) (by omega) fun ad hn he => ⟨_, UpM.refl _ _, ad, rfl, he⟩)
    refine dr_cons (isPtr eI l[i].til) (by decide) (mono_isPtr _ _) (ob2 rfl fun M w' hs2 v1 k1 v2 k2 => ?_) ?_
    · cases k1; obtain ⟨ad2, rfl, he2⟩ := k2; exact opg_yes rfl rfl (op_fieldAddr fdL1 rfl ⟨_, UpM.refl _ _, _, rfl, he2.line.2.1⟩)
    refine dr_cons (isv (.int .i64 l[i].til)) (by decide) (mono_isv _) (ob2 rfl fun M w' hs2 v1 k1 v2 k2 => ?_) ?_
    · cases k1; obtain ⟨ad2, rfl, he2⟩ := k2; exact opg_yes rfl rfl (op_load teI rfl he2 fun u hu => ⟨_, UpM.refl _ _, (eI_V.1 hu).1⟩)
    refine dr_cons (isv (.bool false)) (by decide) (mono_isv _) (ob3 rfl fun M w' hs2 v1 k1 v2 k2 v3 k3 => ?_) ?_
    · cases k1; cases k2; cases k3; exact opg_yes rfl rfl (op_neq rfl rfl ⟨_, UpM.refl _ _, by rw [decide_eq_false (fun h => h rfl)]; rfl⟩)
    refine dr_cons (isv (.bool false)) (by decide) (mono_isv _) (ob2 rfl fun M w' hs2 v1 k1 v2 k2 => ?_) ?_
    · cases k1; cases k2; exact opg (op_pick_f rfl rfl ⟨_, UpM.refl _ _, rfl⟩)
    refine dr_cons (isv (.bool false)) (by decide) (mono_isv _) (ob1 rfl fun M w' hs2 v1 k1 => ?_) ?_
    · cases k1; exact opg (op_move rfl ⟨_, UpM.refl _ _, rfl⟩)
    refine dr_cons (isv va) (by decide) (mono_isv _) (ob1 rfl fun M w' hs2 v1 k1 => ?_) ?_
    · cases k1; exact opg_yes rfl rfl (op_move rfl ⟨_, UpM.refl _ _, rfl⟩)
    refine dr_cons (isv (.int .i64 i)) (by decide) (mono_isv _) (ob1 rfl fun M w' hs2 v1 k1 => ?_) ?_
    · cases k1; exact opg_yes rfl rfl (op_move rfl ⟨_, UpM.refl _ _, rfl⟩)
    refine dr_cons (isPtr eLine l[i]) (by decide) (mono_isPtr _ _) (ob3 rfl fun M w' hs2 v1 k1 v2 k2 v3 k3 => ?_) ?_
    · cases k1; cases k2; cases k3; exact opg_yes rfl rfl (op_indexAddr uL teL rfl rfl (hsa.mono hs2.x) (by omega) fun ad hn he => ⟨_, UpM.refl _ _, ad, rfl, he⟩)
    refine dr_cons (isPtr (eSl eI) l[i].gaps) (by decide) (mono_isPtr _ _) (ob2 rfl fun M w' hs2 v1 k1 v2 k2 => ?_) ?_
    · cases k1; obtain ⟨ad2, rfl, he2⟩ := k2; exact opg_yes rfl rfl (op_fieldAddr fdL2 rfl ⟨_, UpM.refl _ _, _, rfl, he2.line.2.2.1⟩)
    refine dr_cons (isSl eI l[i].gaps) (by decide) (mono_isSl _ _) (ob2 rfl fun M w' hs2 v1 k1 v2 k2 => ?_) ?_
    · cases k1; obtain ⟨ad2, rfl, he2⟩ := k2; exact opg_yes rfl rfl (op_load teSI rfl he2 fun u hu => ⟨_, UpM.refl _ _, eSl_V.1 hu⟩)
    refine dr_cons (isv vb) (by decide) (mono_isv _) (ob1 rfl fun M w' hs2 v1 k1 => ?_) ?_
    · cases k1; exact opg_yes rfl rfl (op_move rfl ⟨_, UpM.refl _ _, rfl⟩)
    refine dr_cons (isv (.int .i64 i)) (by decide) (mono_isv _) (ob1 rfl fun M w' hs2 v1 k1 => ?_) ?_
    · cases k1; exact opg_yes rfl rfl (op_move rfl ⟨_, UpM.refl _ _, rfl⟩)
    refine dr_cons (isPtr eLine l[i]) (by decide) (mono_isPtr _ _) (ob3 rfl fun M w' hs2 v1 k1 v2 k2 v3 k3 => ?_) ?_
    · cases k1; cases k2; cases k3; exact opg_yes rfl rfl (op_indexAddr uL teL rfl rfl (hsb.mono hs2.x) (by omega) fun ad hn he => ⟨_, UpM.refl _ _, ad, rfl, he⟩)
    refine dr_cons (isPtr (eSl eI) l[i].gaps) (by decide) (mono_isPtr _ _) (ob2 rfl fun M w' hs2 v1 k1 v2 k2 => ?_) ?_
    · cases k1; obtain ⟨ad2, rfl, he2⟩ := k2; exact opg_yes rfl rfl (op_fieldAddr fdL2 rfl ⟨_, UpM.refl _ _, _, rfl, he2.line.2.2.1⟩)
    refine dr_cons (isSl eI l[i].gaps) (by decide) (mono_isSl _ _) (ob2 rfl fun M w' hs2 v1 k1 v2 k2 => ?_) ?_
    · cases k1; obtain ⟨ad2, rfl, he2⟩ := k2; exact opg_yes rfl rfl (op_load teSI rfl he2 fun u hu => ⟨_, UpM.refl _ _, eSl_V.1 hu⟩)
    refine dr_cons (isv (.bool true)) (by decide) (mono_isv _) (ob3 rfl fun M w' hs2 v1 k1 v2 k2 v3 k3 => ?_) ?_
    · cases k1; exact opg_yes rfl rfl (op_call ent54 rfl (sameInts_c M _ _ _ _ (hs2.mb hr.mb) k2 k3) fun u w2 hu => ⟨_, UpM.of_below hu.2, hu.1⟩)
    refine dr_cons (isv (.bool false)) (by decide) (mono_isv _) (ob2 rfl fun M w' hs2 v1 k1 v2 k2 => ?_) ?_
    · cases k1; cases k2; exact opg_yes rfl rfl (op_not rfl ⟨_, UpM.refl _ _, rfl⟩)
    refine dr_cons (isv (.bool false)) (by decide) (mono_isv _) (ob2 rfl fun M w' hs2 v1 k1 v2 k2 => ?_) ?_
    · cases k1; cases k2; exact opg (op_pick_f rfl rfl ⟨_, UpM.refl _ _, rfl⟩)
    refine dr_cons (isv (.bool false)) (by decide) (mono_isv _) (ob1 rfl fun M w' hs2 v1 k1 => ?_) ?_
    · cases k1; exact opg (op_move rfl ⟨_, UpM.refl _ _, rfl⟩)
    refine dr_cons (isv va) (by decide) (mono_isv _) (ob1 rfl fun M w' hs2 v1 k1 => ?_) ?_
    · cases k1; exact opg_yes rfl rfl (op_move rfl ⟨_, UpM.refl _ _, rfl⟩)
    refine dr_cons (isv (.int .i64 i)) (by decide) (mono_isv _) (ob1 rfl fun M w' hs2 v1 k1 => ?_) ?_
    · cases k1; exact opg_yes rfl rfl (op_move rfl ⟨_, UpM.refl _ _, rfl⟩)
    refine dr_cons (isPtr eLine l[i]) (by decide) (mono_isPtr _ _) (ob3 rfl fun M w' hs2 v1 k1 v2 k2 v3 k3 => ?_) ?_
    · cases k1; cases k2; cases k3; exact opg_yes rfl rfl (op_indexAddr uL teL rfl rfl (hsa.mono hs2.x) (by omega) fun ad hn he => ⟨_, UpM.refl _ _, ad, rfl, he⟩)
    refine dr_cons (isPtr (eSl eI) l[i].notes) (by decide) (mono_isPtr _ _) (ob2 rfl fun M w' hs2 v1 k1 v2 k2 => ?_) ?_
    · cases k1; obtain ⟨ad2, rfl, he2⟩ := k2; exact opg_yes rfl rfl (op_fieldAddr fdL3 rfl ⟨_, UpM.refl _ _, _, rfl, he2.line.2.2.2⟩)
    refine dr_cons (isSl eI l[i].notes) (by decide) (mono_isSl _ _) (ob2 rfl fun M w' hs2 v1 k1 v2 k2 => ?_) ?_
    · cases k1; obtain ⟨ad2, rfl, he2⟩ := k2; exact opg_yes rfl rfl (op_load teSI rfl he2 fun u hu => ⟨_, UpM.refl _ _, eSl_V.1 hu⟩)
    refine dr_cons (isv vb) (by decide) (mono_isv _) (ob1 rfl fun M w' hs2 v1 k1 => ?_) ?_
    · cases k1; exact opg_yes rfl rfl (op_move rfl ⟨_, UpM.refl _ _, rfl⟩)
    refine dr_cons (isv (.int .i64 i)) (by decide) (mono_isv _) (ob1 rfl fun M w' hs2 v1 k1 => ?_) ?_
    · cases k1; exact opg_yes rfl rfl (op_move rfl ⟨_, UpM.refl _ _, rfl⟩)
    refine dr_cons (isPtr eLine l[i]) (by decide) (mono_isPtr _ _) (ob3 rfl fun M w' hs2 v1 k1 v2 k2 v3 k3 => ?_) ?_
    · cases k1; cases k2; cases k3; exact opg_yes rfl rfl (op_indexAddr uL teL rfl rfl (hsb.mono hs2.x) (by omega) fun ad hn he => ⟨_, UpM.refl _ _, ad, rfl, he⟩)
    refine dr_cons (isPtr (eSl eI) l[i].notes) (by decide) (mono_isPtr _ _) (ob2 rfl fun M w' hs2 v1 k1 v2 k2 => ?_) ?_
    · cases k1; obtain ⟨ad2, rfl, he2⟩ := k2; exact opg_yes rfl rfl (op_fieldAddr fdL3 rfl ⟨_, UpM.refl _ _, _, rfl, he2.line.2.2.2⟩)
    refine dr_cons (isSl eI l[i].notes) (by decide) (mono_isSl _ _) (ob2 rfl fun M w' hs2 v1 k1 v2 k2 => ?_) ?_
    · cases k1; obtain ⟨ad2, rfl, he2⟩ := k2; exact opg_yes rfl rfl (op_load teSI rfl he2 fun u hu => ⟨_, UpM.refl _ _, eSl_V.1 hu⟩)
    refine dr_cons (isv (.bool true)) (by decide) (mono_isv _) (ob3 rfl fun M w' hs2 v1 k1 v2 k2 v3 k3 => ?_) ?_
    · cases k1; exact opg_yes rfl rfl (op_call ent54 rfl (sameInts_c M _ _ _ _ (hs2.mb hr.mb) k2 k3) fun u w2 hu => ⟨_, UpM.of_below hu.2, hu.1⟩)
    refine dr_cons (isv (.bool false)) (by decide) (mono_isv _) (ob2 rfl fun M w' hs2 v1 k1 v2 k2 => ?_) ?_
    · cases k1; cases k2; exact opg_yes rfl rfl (op_not rfl ⟨_, UpM.refl _ _, rfl⟩)
    refine dr_nil rfl (fun M3 w4 val hs2 hall => ?_)
    obtain ⟨h67, _, _, _, _, _, _, _, _, _, _, _, h55, _⟩ := hall
    have e67 : val 67 = _ := h67; have e55 : val 55 = _ := h55
    replace hsa := hsa.mono hs2.x
    replace hsb := hsb.mono hs2.x
    replace hr := hr.up hs2
    refine RT.sub (fr' := [(0, va), (1, vb), (5, .int .i64 i), (55, val 55), (67, val 67)]) ?_ (by repeat (first | exact trivial | refine ⟨rfl, ?_⟩))
    rw [e55, e67]
    refine rt_one (i := 51) (by kernel_rfl) rfl (by decide) (op_pick_f rfl rfl ?_)
    refine rt_nil (by kernel_rfl) ?_
    (repeat (first
        | refine run_seq ?_
        | refine run_region_l ?_
        | refine rl_nil ?_
        | refine rl_step (by decide) (op_move rfl ?_)
        | refine rl_step (by decide) (op_assign rfl ?_)
        | refine run_block ?_
        | refine run_inBlock ?_
        | refine run_exit rfl ?_
        | refine run_skip ?_
        | refine run_label ?_
        | refine run_true rfl ?_
        | refine run_false rfl ?_
        | refine rl_yes rfl rfl ?_
        | refine rl_no rfl rfl rfl (by decide) ?_
        | refine rl_step (by decide) (op_pick_t rfl rfl ?_)
        | refine rl_step (by decide) (op_pick_f rfl rfl ?_)
        | refine rl_step (by decide) (op_lss rfl rfl ?_)
        | refine rl_step (by decide) (op_leq rfl rfl ?_)
        | refine rl_step (by decide) (op_gtr rfl rfl ?_)
        | refine rl_step (by decide) (op_geq rfl rfl ?_)
        | refine rl_step (by decide) (op_eql rfl rfl ?_)
        | refine rl_step (by decide) (op_neq rfl rfl ?_)
        | refine rl_step (by decide) (op_not rfl ?_)
        | refine rl_step (by decide) (op_min rfl rfl ?_)
        | refine rl_step (by decide) (op_max rfl rfl ?_)
        | refine rl_step (by decide) (op_extract rfl rfl ?_)
        | refine rl_step (by decide) (op_add rfl rfl (by omega) ?_)
        | refine rl_step (by decide) (op_sub rfl rfl (by omega) ?_)
        | refine rl_step (by decide) (op_neg rfl (by omega) ?_)))
    exact (ih (i + 1, M3) _ ⟨by simp only; omega, hr, hsa, hsb⟩ (by simp only; omega)).sub (by repeat (first | exact trivial | refine ⟨rfl, ?_⟩))
  · (repeat (first
        | refine run_seq ?_
        | refine run_region_l ?_
        | refine rl_nil ?_
        | refine rl_step (by decide) (op_move rfl ?_)
        | refine rl_step (by decide) (op_assign rfl ?_)
        | refine run_block ?_
        | refine run_inBlock ?_
        | refine run_exit rfl ?_
        | refine run_skip ?_
        | refine run_label ?_
        | refine run_true rfl ?_
        | refine run_false rfl ?_
        | refine rl_yes rfl rfl ?_
        | refine rl_no rfl rfl rfl (by decide) ?_
        | refine rl_step (by decide) (op_pick_t rfl rfl ?_)
        | refine rl_step (by decide) (op_pick_f rfl rfl ?_)
        | refine rl_step (by decide) (op_lss rfl rfl ?_)
        | refine rl_step (by decide) (op_leq rfl rfl ?_)
        | refine rl_step (by decide) (op_gtr rfl rfl ?_)
        | refine rl_step (by decide) (op_geq rfl rfl ?_)
        | refine rl_step (by decide) (op_eql rfl rfl ?_)
        | refine rl_step (by decide) (op_neq rfl rfl ?_)
        | refine rl_step (by decide) (op_not rfl ?_)
        | refine rl_step (by decide) (op_min rfl rfl ?_)
        | refine rl_step (by decide) (op_max rfl rfl ?_)
        | refine rl_step (by decide) (op_extract rfl rfl ?_)
        | refine rl_step (by decide) (op_add rfl rfl (by omega) ?_)
        | refine rl_step (by decide) (op_sub rfl rfl (by omega) ?_)
        | refine rl_step (by decide) (op_neg rfl (by omega) ?_)))
    refine run_ret1 Try.func27 rfl rfl ?_
    exact ⟨rfl, hr.bel⟩

end Go.Proofs.Ytocoinkhbjlbhaa
