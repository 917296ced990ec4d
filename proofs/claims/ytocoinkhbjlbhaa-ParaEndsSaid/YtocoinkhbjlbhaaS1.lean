/-
  Walks: functions on numbers.
-/
import Derived.Test.YtocoinkhbjlbhaaBase
namespace Go.Proofs.Ytocoinkhbjlbhaa
open Go Go.RowKit

/-- Around: n modulo m, never negative. -/
def aro (n m : Int) : Int := (if n < 0 then -(n + 1) else n) % m

theorem aro_bd (n m : Int) (h : 1 ≤ m) : 0 ≤ aro n m ∧ aro n m < m := by
  unfold aro
  exact ⟨Int.emod_nonneg _ (by omega), Int.emod_lt_of_pos _ (by omega)⟩

theorem around03 (n m : Int) (w : World) (hn : I64 n) (hm : 1 ≤ m) : CallsV Try.prog 23 [.int .i64 n, .int .i64 m] w (fun v w' => v = .int .i64 (aro n m) ∧ w' = w) := by
  unfold I64 at hn
  refine callsV_of_run Try.func23 rfl Try.ntmps23 (Nat.le_of_ble_eq_true rfl) ?_
  (repeat (first
      | refine run_seq ?_
      | refine run_region_l ?_
      | refine rl_nil ?_
      | refine rl_step (by decide) (op_move rfl ?_)
      | refine rl_step (by decide) (op_assign rfl ?_)
      | refine run_block ?_
      | refine run_inBlock ?_
      | refine run_exit rfl ?_
      | refine run_skip ?_
      | refine run_label ?_
      | refine run_true rfl ?_
      | refine run_false rfl ?_
      | refine rl_yes rfl rfl ?_
      | refine rl_no rfl rfl rfl (by decide) ?_
      | refine rl_step (by decide) (op_pick_t rfl rfl ?_)
      | refine rl_step (by decide) (op_pick_f rfl rfl ?_)
      | refine rl_step (by decide) (op_lss rfl rfl ?_)
      | refine rl_step (by decide) (op_leq rfl rfl ?_)
      | refine rl_step (by decide) (op_gtr rfl rfl ?_)
      | refine rl_step (by decide) (op_geq rfl rfl ?_)
      | refine rl_step (by decide) (op_eql rfl rfl ?_)
      | refine rl_step (by decide) (op_neq rfl rfl ?_)
      | refine rl_step (by decide) (op_not rfl ?_)
      | refine rl_step (by decide) (op_min rfl rfl ?_)
      | refine rl_step (by decide) (op_max rfl rfl ?_)
      | refine rl_step (by decide) (op_extract rfl rfl ?_)
      | refine rl_step (by decide) (op_add rfl rfl (by omega) ?_)
      | refine rl_step (by decide) (op_sub rfl rfl (by omega) ?_)
      | refine rl_step (by decide) (op_neg rfl (by omega) ?_)))
  refine run_if rfl (fun h => ?_) (fun h => ?_)
  · (repeat (first
        | refine run_seq ?_
        | refine run_region_l ?_
        | refine rl_nil ?_
        | refine rl_step (by decide) (op_move rfl ?_)
        | refine rl_step (by decide) (op_assign rfl ?_)
        | refine run_block ?_
        | refine run_inBlock ?_
        | refine run_exit rfl ?_
        | refine run_skip ?_
        | refine run_label ?_
        | refine run_true rfl ?_
        | refine run_false rfl ?_
        | refine rl_yes rfl rfl ?_
        | refine rl_no rfl rfl rfl (by decide) ?_
        | refine rl_step (by decide) (op_pick_t rfl rfl ?_)
        | refine rl_step (by decide) (op_pick_f rfl rfl ?_)
        | refine rl_step (by decide) (op_lss rfl rfl ?_)
        | refine rl_step (by decide) (op_leq rfl rfl ?_)
        | refine rl_step (by decide) (op_gtr rfl rfl ?_)
        | refine rl_step (by decide) (op_geq rfl rfl ?_)
        | refine rl_step (by decide) (op_eql rfl rfl ?_)
        | refine rl_step (by decide) (op_neq rfl rfl ?_)
        | refine rl_step (by decide) (op_not rfl ?_)
        | refine rl_step (by decide) (op_min rfl rfl ?_)
        | refine rl_step (by decide) (op_max rfl rfl ?_)
        | refine rl_step (by decide) (op_extract rfl rfl ?_)
        | refine rl_step (by decide) (op_add rfl rfl (by omega) ?_)
        | refine rl_step (by decide) (op_sub rfl rfl (by omega) ?_)
        | refine rl_step (by decide) (op_neg rfl (by omega) ?_)))
    refine rl_step (by decide) (op_rem rfl rfl (by omega) ?_)
    (repeat (first
        | refine run_seq ?_
        | refine run_region_l ?_
        | refine rl_nil ?_
        | refine rl_step (by decide) (op_move rfl ?_)
        | refine rl_step (by decide) (op_assign rfl ?_)
        | refine run_block ?_
        | refine run_inBlock ?_
        | refine run_exit rfl ?_
        | refine run_skip ?_
        | refine run_label ?_
        | refine run_true rfl ?_
        | refine run_false rfl ?_
        | refine rl_yes rfl rfl ?_
        | refine rl_no rfl rfl rfl (by decide) ?_
        | refine rl_step (by decide) (op_pick_t rfl rfl ?_)
        | refine rl_step (by decide) (op_pick_f rfl rfl ?_)
        | refine rl_step (by decide) (op_lss rfl rfl ?_)
        | refine rl_step (by decide) (op_leq rfl rfl ?_)
        | refine rl_step (by decide) (op_gtr rfl rfl ?_)
        | refine rl_step (by decide) (op_geq rfl rfl ?_)
        | refine rl_step (by decide) (op_eql rfl rfl ?_)
        | refine rl_step (by decide) (op_neq rfl rfl ?_)
        | refine rl_step (by decide) (op_not rfl ?_)
        | refine rl_step (by decide) (op_min rfl rfl ?_)
        | refine rl_step (by decide) (op_max rfl rfl ?_)
        | refine rl_step (by decide) (op_extract rfl rfl ?_)
        | refine rl_step (by decide) (op_add rfl rfl (by omega) ?_)
        | refine rl_step (by decide) (op_sub rfl rfl (by omega) ?_)
        | refine rl_step (by decide) (op_neg rfl (by omega) ?_)))
    refine run_ret1 Try.func23 rfl rfl ?_
    refine ⟨?_, rfl⟩
    rw [aro, if_pos h, Int.tmod_eq_emod_of_nonneg (by omega)]
  · (repeat (first
        | refine run_seq ?_
        | refine run_region_l ?_
        | refine rl_nil ?_
        | refine rl_step (by decide) (op_move rfl ?_)
        | refine rl_step (by decide) (op_assign rfl ?_)
        | refine run_block ?_
        | refine run_inBlock ?_
        | refine run_exit rfl ?_
        | refine run_skip ?_
        | refine run_label ?_
        | refine run_true rfl ?_
        | refine run_false rfl ?_
        | refine rl_yes rfl rfl ?_
        | refine rl_no rfl rfl rfl (by decide) ?_
        | refine rl_step (by decide) (op_pick_t rfl rfl ?_)
        | refine rl_step (by decide) (op_pick_f rfl rfl ?_)
        | refine rl_step (by decide) (op_lss rfl rfl ?_)
        | refine rl_step (by decide) (op_leq rfl rfl ?_)
        | refine rl_step (by decide) (op_gtr rfl rfl ?_)
        | refine rl_step (by decide) (op_geq rfl rfl ?_)
        | refine rl_step (by decide) (op_eql rfl rfl ?_)
        | refine rl_step (by decide) (op_neq rfl rfl ?_)
        | refine rl_step (by decide) (op_not rfl ?_)
        | refine rl_step (by decide) (op_min rfl rfl ?_)
        | refine rl_step (by decide) (op_max rfl rfl ?_)
        | refine rl_step (by decide) (op_extract rfl rfl ?_)
        | refine rl_step (by decide) (op_add rfl rfl (by omega) ?_)
        | refine rl_step (by decide) (op_sub rfl rfl (by omega) ?_)
        | refine rl_step (by decide) (op_neg rfl (by omega) ?_)))
    refine rl_step (by decide) (op_rem rfl rfl (by omega) ?_)
    (repeat (first
        | refine run_seq ?_
        | refine run_region_l ?_
        | refine rl_nil ?_
        | refine rl_step (by decide) (op_move rfl ?_)
        | refine rl_step (by decide) (op_assign rfl ?_)
        | refine run_block ?_
        | refine run_inBlock ?_
        | refine run_exit rfl ?_
        | refine run_skip ?_
        | refine run_label ?_
        | refine run_true rfl ?_
        | refine run_false rfl ?_
        | refine rl_yes rfl rfl ?_
        | refine rl_no rfl rfl rfl (by decide) ?_
        | refine rl_step (by decide) (op_pick_t rfl rfl ?_)
        | refine rl_step (by decide) (op_pick_f rfl rfl ?_)
        | refine rl_step (by decide) (op_lss rfl rfl ?_)
        | refine rl_step (by decide) (op_leq rfl rfl ?_)
        | refine rl_step (by decide) (op_gtr rfl rfl ?_)
        | refine rl_step (by decide) (op_geq rfl rfl ?_)
        | refine rl_step (by decide) (op_eql rfl rfl ?_)
        | refine rl_step (by decide) (op_neq rfl rfl ?_)
        | refine rl_step (by decide) (op_not rfl ?_)
        | refine rl_step (by decide) (op_min rfl rfl ?_)
        | refine rl_step (by decide) (op_max rfl rfl ?_)
        | refine rl_step (by decide) (op_extract rfl rfl ?_)
        | refine rl_step (by decide) (op_add rfl rfl (by omega) ?_)
        | refine rl_step (by decide) (op_sub rfl rfl (by omega) ?_)
        | refine rl_step (by decide) (op_neg rfl (by omega) ?_)))
    refine run_ret1 Try.func23 rfl rfl ?_
    refine ⟨?_, rfl⟩
    rw [aro, if_neg h, Int.tmod_eq_emod_of_nonneg (by omega)]

theorem around01 (n m : Int) (w : World) (hn : I64 n) (hm : 1 ≤ m) : CallsV Try.prog 33 [.int .i64 n, .int .i64 m] w (fun v w' => v = .int .i64 (aro n m) ∧ w' = w) := by
  unfold I64 at hn
  refine callsV_of_run Try.func33 rfl Try.ntmps33 (Nat.le_of_ble_eq_true rfl) ?_
  (repeat (first
      | refine run_seq ?_
      | refine run_region_l ?_
      | refine rl_nil ?_
      | refine rl_step (by decide) (op_move rfl ?_)
      | refine rl_step (by decide) (op_assign rfl ?_)
      | refine run_block ?_
      | refine run_inBlock ?_
      | refine run_exit rfl ?_
      | refine run_skip ?_
      | refine run_label ?_
      | refine run_true rfl ?_
      | refine run_false rfl ?_
      | refine rl_yes rfl rfl ?_
      | refine rl_no rfl rfl rfl (by decide) ?_
      | refine rl_step (by decide) (op_pick_t rfl rfl ?_)
      | refine rl_step (by decide) (op_pick_f rfl rfl ?_)
      | refine rl_step (by decide) (op_lss rfl rfl ?_)
      | refine rl_step (by decide) (op_leq rfl rfl ?_)
      | refine rl_step (by decide) (op_gtr rfl rfl ?_)
      | refine rl_step (by decide) (op_geq rfl rfl ?_)
      | refine rl_step (by decide) (op_eql rfl rfl ?_)
      | refine rl_step (by decide) (op_neq rfl rfl ?_)
      | refine rl_step (by decide) (op_not rfl ?_)
      | refine rl_step (by decide) (op_min rfl rfl ?_)
      | refine rl_step (by decide) (op_max rfl rfl ?_)
      | refine rl_step (by decide) (op_extract rfl rfl ?_)
      | refine rl_step (by decide) (op_add rfl rfl (by omega) ?_)
      | refine rl_step (by decide) (op_sub rfl rfl (by omega) ?_)
      | refine rl_step (by decide) (op_neg rfl (by omega) ?_)))
  refine run_if rfl (fun h => ?_) (fun h => ?_)
  · (repeat (first
        | refine run_seq ?_
        | refine run_region_l ?_
        | refine rl_nil ?_
        | refine rl_step (by decide) (op_move rfl ?_)
        | refine rl_step (by decide) (op_assign rfl ?_)
        | refine run_block ?_
        | refine run_inBlock ?_
        | refine run_exit rfl ?_
        | refine run_skip ?_
        | refine run_label ?_
        | refine run_true rfl ?_
        | refine run_false rfl ?_
        | refine rl_yes rfl rfl ?_
        | refine rl_no rfl rfl rfl (by decide) ?_
        | refine rl_step (by decide) (op_pick_t rfl rfl ?_)
        | refine rl_step (by decide) (op_pick_f rfl rfl ?_)
        | refine rl_step (by decide) (op_lss rfl rfl ?_)
        | refine rl_step (by decide) (op_leq rfl rfl ?_)
        | refine rl_step (by decide) (op_gtr rfl rfl ?_)
        | refine rl_step (by decide) (op_geq rfl rfl ?_)
        | refine rl_step (by decide) (op_eql rfl rfl ?_)
        | refine rl_step (by decide) (op_neq rfl rfl ?_)
        | refine rl_step (by decide) (op_not rfl ?_)
        | refine rl_step (by decide) (op_min rfl rfl ?_)
        | refine rl_step (by decide) (op_max rfl rfl ?_)
        | refine rl_step (by decide) (op_extract rfl rfl ?_)
        | refine rl_step (by decide) (op_add rfl rfl (by omega) ?_)
        | refine rl_step (by decide) (op_sub rfl rfl (by omega) ?_)
        | refine rl_step (by decide) (op_neg rfl (by omega) ?_)))
    refine rl_step (by decide) (op_rem rfl rfl (by omega) ?_)
    (repeat (first
        | refine run_seq ?_
        | refine run_region_l ?_
        | refine rl_nil ?_
        | refine rl_step (by decide) (op_move rfl ?_)
        | refine rl_step (by decide) (op_assign rfl ?_)
        | refine run_block ?_
        | refine run_inBlock ?_
        | refine run_exit rfl ?_
        | refine run_skip ?_
        | refine run_label ?_
        | refine run_true rfl ?_
        | refine run_false rfl ?_
        | refine rl_yes rfl rfl ?_
        | refine rl_no rfl rfl rfl (by decide) ?_
        | refine rl_step (by decide) (op_pick_t rfl rfl ?_)
        | refine rl_step (by decide) (op_pick_f rfl rfl ?_)
        | refine rl_step (by decide) (op_lss rfl rfl ?_)
        | refine rl_step (by decide) (op_leq rfl rfl ?_)
        | refine rl_step (by decide) (op_gtr rfl rfl ?_)
        | refine rl_step (by decide) (op_geq rfl rfl ?_)
        | refine rl_step (by decide) (op_eql rfl rfl ?_)
        | refine rl_step (by decide) (op_neq rfl rfl ?_)
        | refine rl_step (by decide) (op_not rfl ?_)
        | refine rl_step (by decide) (op_min rfl rfl ?_)
        | refine rl_step (by decide) (op_max rfl rfl ?_)
        | refine rl_step (by decide) (op_extract rfl rfl ?_)
        | refine rl_step (by decide) (op_add rfl rfl (by omega) ?_)
        | refine rl_step (by decide) (op_sub rfl rfl (by omega) ?_)
        | refine rl_step (by decide) (op_neg rfl (by omega) ?_)))
    refine run_ret1 Try.func33 rfl rfl ?_
    refine ⟨?_, rfl⟩
    rw [aro, if_pos h, Int.tmod_eq_emod_of_nonneg (by omega)]
  · (repeat (first
        | refine run_seq ?_
        | refine run_region_l ?_
        | refine rl_nil ?_
        | refine rl_step (by decide) (op_move rfl ?_)
        | refine rl_step (by decide) (op_assign rfl ?_)
        | refine run_block ?_
        | refine run_inBlock ?_
        | refine run_exit rfl ?_
        | refine run_skip ?_
        | refine run_label ?_
        | refine run_true rfl ?_
        | refine run_false rfl ?_
        | refine rl_yes rfl rfl ?_
        | refine rl_no rfl rfl rfl (by decide) ?_
        | refine rl_step (by decide) (op_pick_t rfl rfl ?_)
        | refine rl_step (by decide) (op_pick_f rfl rfl ?_)
        | refine rl_step (by decide) (op_lss rfl rfl ?_)
        | refine rl_step (by decide) (op_leq rfl rfl ?_)
        | refine rl_step (by decide) (op_gtr rfl rfl ?_)
        | refine rl_step (by decide) (op_geq rfl rfl ?_)
        | refine rl_step (by decide) (op_eql rfl rfl ?_)
        | refine rl_step (by decide) (op_neq rfl rfl ?_)
        | refine rl_step (by decide) (op_not rfl ?_)
        | refine rl_step (by decide) (op_min rfl rfl ?_)
        | refine rl_step (by decide) (op_max rfl rfl ?_)
        | refine rl_step (by decide) (op_extract rfl rfl ?_)
        | refine rl_step (by decide) (op_add rfl rfl (by omega) ?_)
        | refine rl_step (by decide) (op_sub rfl rfl (by omega) ?_)
        | refine rl_step (by decide) (op_neg rfl (by omega) ?_)))
    refine rl_step (by decide) (op_rem rfl rfl (by omega) ?_)
    (repeat (first
        | refine run_seq ?_
        | refine run_region_l ?_
        | refine rl_nil ?_
        | refine rl_step (by decide) (op_move rfl ?_)
        | refine rl_step (by decide) (op_assign rfl ?_)
        | refine run_block ?_
        | refine run_inBlock ?_
        | refine run_exit rfl ?_
        | refine run_skip ?_
        | refine run_label ?_
        | refine run_true rfl ?_
        | refine run_false rfl ?_
        | refine rl_yes rfl rfl ?_
        | refine rl_no rfl rfl rfl (by decide) ?_
        | refine rl_step (by decide) (op_pick_t rfl rfl ?_)
        | refine rl_step (by decide) (op_pick_f rfl rfl ?_)
        | refine rl_step (by decide) (op_lss rfl rfl ?_)
        | refine rl_step (by decide) (op_leq rfl rfl ?_)
        | refine rl_step (by decide) (op_gtr rfl rfl ?_)
        | refine rl_step (by decide) (op_geq rfl rfl ?_)
        | refine rl_step (by decide) (op_eql rfl rfl ?_)
        | refine rl_step (by decide) (op_neq rfl rfl ?_)
        | refine rl_step (by decide) (op_not rfl ?_)
        | refine rl_step (by decide) (op_min rfl rfl ?_)
        | refine rl_step (by decide) (op_max rfl rfl ?_)
        | refine rl_step (by decide) (op_extract rfl rfl ?_)
        | refine rl_step (by decide) (op_add rfl rfl (by omega) ?_)
        | refine rl_step (by decide) (op_sub rfl rfl (by omega) ?_)
        | refine rl_step (by decide) (op_neg rfl (by omega) ?_)))
    refine run_ret1 Try.func33 rfl rfl ?_
    refine ⟨?_, rfl⟩
    rw [aro, if_neg h, Int.tmod_eq_emod_of_nonneg (by omega)]

theorem height_c (n : Int) (w : World) (hn : I64 n) : CallsV Try.prog 19 [.int .i64 n] w (fun v w' => v = .int .i64 (4 + aro n 97) ∧ w' = w) := by
  have hb := aro_bd n 97 (by omega)
  refine callsV_of_run Try.func19 rfl Try.ntmps19 (Nat.le_of_ble_eq_true rfl) ?_
  (repeat (first
      | refine run_seq ?_
      | refine run_region_l ?_
      | refine rl_nil ?_
      | refine rl_step (by decide) (op_move rfl ?_)
      | refine rl_step (by decide) (op_assign rfl ?_)
      | refine run_block ?_
      | refine run_inBlock ?_
      | refine run_exit rfl ?_
      | refine run_skip ?_
      | refine run_label ?_
      | refine run_true rfl ?_
      | refine run_false rfl ?_
      | refine rl_yes rfl rfl ?_
      | refine rl_no rfl rfl rfl (by decide) ?_
      | refine rl_step (by decide) (op_pick_t rfl rfl ?_)
      | refine rl_step (by decide) (op_pick_f rfl rfl ?_)
      | refine rl_step (by decide) (op_lss rfl rfl ?_)
      | refine rl_step (by decide) (op_leq rfl rfl ?_)
      | refine rl_step (by decide) (op_gtr rfl rfl ?_)
      | refine rl_step (by decide) (op_geq rfl rfl ?_)
      | refine rl_step (by decide) (op_eql rfl rfl ?_)
      | refine rl_step (by decide) (op_neq rfl rfl ?_)
      | refine rl_step (by decide) (op_not rfl ?_)
      | refine rl_step (by decide) (op_min rfl rfl ?_)
      | refine rl_step (by decide) (op_max rfl rfl ?_)
      | refine rl_step (by decide) (op_extract rfl rfl ?_)
      | refine rl_step (by decide) (op_add rfl rfl (by omega) ?_)
      | refine rl_step (by decide) (op_sub rfl rfl (by omega) ?_)
      | refine rl_step (by decide) (op_neg rfl (by omega) ?_)))
  refine rl_step (by decide) (op_call ent23 rfl (around03 _ _ _ hn (by omega)) ?_)
  rintro v w' ⟨rfl, rfl⟩
  (repeat (first
      | refine run_seq ?_
      | refine run_region_l ?_
      | refine rl_nil ?_
      | refine rl_step (by decide) (op_move rfl ?_)
      | refine rl_step (by decide) (op_assign rfl ?_)
      | refine run_block ?_
      | refine run_inBlock ?_
      | refine run_exit rfl ?_
      | refine run_skip ?_
      | refine run_label ?_
      | refine run_true rfl ?_
      | refine run_false rfl ?_
      | refine rl_yes rfl rfl ?_
      | refine rl_no rfl rfl rfl (by decide) ?_
      | refine rl_step (by decide) (op_pick_t rfl rfl ?_)
      | refine rl_step (by decide) (op_pick_f rfl rfl ?_)
      | refine rl_step (by decide) (op_lss rfl rfl ?_)
      | refine rl_step (by decide) (op_leq rfl rfl ?_)
      | refine rl_step (by decide) (op_gtr rfl rfl ?_)
      | refine rl_step (by decide) (op_geq rfl rfl ?_)
      | refine rl_step (by decide) (op_eql rfl rfl ?_)
      | refine rl_step (by decide) (op_neq rfl rfl ?_)
      | refine rl_step (by decide) (op_not rfl ?_)
      | refine rl_step (by decide) (op_min rfl rfl ?_)
      | refine rl_step (by decide) (op_max rfl rfl ?_)
      | refine rl_step (by decide) (op_extract rfl rfl ?_)
      | refine rl_step (by decide) (op_add rfl rfl (by omega) ?_)
      | refine rl_step (by decide) (op_sub rfl rfl (by omega) ?_)
      | refine rl_step (by decide) (op_neg rfl (by omega) ?_)))
  refine run_ret1 Try.func19 rfl rfl ?_
  exact ⟨rfl, rfl⟩

end Go.Proofs.Ytocoinkhbjlbhaa
