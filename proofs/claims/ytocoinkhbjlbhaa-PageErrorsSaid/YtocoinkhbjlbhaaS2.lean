/-
  Walks: the checks of layer 27.
-/
import Derived.Test.YtocoinkhbjlbhaaS1
import Derived.Test.YtocoinkhbjlbhaaM27
namespace Go.Proofs.Ytocoinkhbjlbhaa
open Go Go.RowKit

theorem checkL_c (M : Mut) (v : Value) (l : List Line) (w : World) (hs : SlOf eLine M w v l) :
    CallsV Try.prog 62 [v] w (fun u w' => u = .bool (decide ((l.length : Int) = 0)) ∧ w' = w) := by
  refine callsV_of_run Try.func62 rfl Try.ntmps62 (Nat.le_of_ble_eq_true rfl) ?_
  (repeat (first
      | refine run_seq ?_
      | refine run_region_l ?_
      | refine rl_nil ?_
      | refine rl_step (by decide) (op_move rfl ?_)
      | refine rl_step (by decide) (op_assign rfl ?_)
      | refine run_block ?_
      | refine run_inBlock ?_
      | refine run_exit rfl ?_
      | refine run_skip ?_
      | refine run_label ?_
      | refine run_true rfl ?_
      | refine run_false rfl ?_
      | refine rl_yes rfl rfl ?_
      | refine rl_no rfl rfl rfl (by decide) ?_
      | refine rl_step (by decide) (op_pick_t rfl rfl ?_)
      | refine rl_step (by decide) (op_pick_f rfl rfl ?_)
      | refine rl_step (by decide) (op_lss rfl rfl ?_)
      | refine rl_step (by decide) (op_leq rfl rfl ?_)
      | refine rl_step (by decide) (op_gtr rfl rfl ?_)
      | refine rl_step (by decide) (op_geq rfl rfl ?_)
      | refine rl_step (by decide) (op_eql rfl rfl ?_)
      | refine rl_step (by decide) (op_neq rfl rfl ?_)
      | refine rl_step (by decide) (op_not rfl ?_)
      | refine rl_step (by decide) (op_min rfl rfl ?_)
      | refine rl_step (by decide) (op_max rfl rfl ?_)
      | refine rl_step (by decide) (op_extract rfl rfl ?_)
      | refine rl_step (by decide) (op_add rfl rfl (by omega) ?_)
      | refine rl_step (by decide) (op_sub rfl rfl (by omega) ?_)
      | refine rl_step (by decide) (op_neg rfl (by omega) ?_)))
  refine rl_step (by decide) (op_len uL rfl hs ?_)
  (repeat (first
      | refine run_seq ?_
      | refine run_region_l ?_
      | refine rl_nil ?_
      | refine rl_step (by decide) (op_move rfl ?_)
      | refine rl_step (by decide) (op_assign rfl ?_)
      | refine run_block ?_
      | refine run_inBlock ?_
      | refine run_exit rfl ?_
      | refine run_skip ?_
      | refine run_label ?_
      | refine run_true rfl ?_
      | refine run_false rfl ?_
      | refine rl_yes rfl rfl ?_
      | refine rl_no rfl rfl rfl (by decide) ?_
      | refine rl_step (by decide) (op_pick_t rfl rfl ?_)
      | refine rl_step (by decide) (op_pick_f rfl rfl ?_)
      | refine rl_step (by decide) (op_lss rfl rfl ?_)
      | refine rl_step (by decide) (op_leq rfl rfl ?_)
      | refine rl_step (by decide) (op_gtr rfl rfl ?_)
      | refine rl_step (by decide) (op_geq rfl rfl ?_)
      | refine rl_step (by decide) (op_eql rfl rfl ?_)
      | refine rl_step (by decide) (op_neq rfl rfl ?_)
      | refine rl_step (by decide) (op_not rfl ?_)
      | refine rl_step (by decide) (op_min rfl rfl ?_)
      | refine rl_step (by decide) (op_max rfl rfl ?_)
      | refine rl_step (by decide) (op_extract rfl rfl ?_)
      | refine rl_step (by decide) (op_add rfl rfl (by omega) ?_)
      | refine rl_step (by decide) (op_sub rfl rfl (by omega) ?_)
      | refine rl_step (by decide) (op_neg rfl (by omega) ?_)))
  refine run_ret1 Try.func62 rfl rfl ?_
  exact ⟨rfl, rfl⟩

theorem indexL_c (M : Mut) (v : Value) (l : List (List Line)) (w : World) (hs : SlOf (eSl eLine) M w v l) :
    CallsV Try.prog 67 [v, .func (.func 62) #[] #[]] w (fun u w' => u = .int .i64 (idxM (fun x => decide ((x.length : Int) = 0)) l 0) ∧ w' = w) := by
  have hle := hs.le
  refine callsV_of_run Try.func67 rfl Try.ntmps67 (Nat.le_of_ble_eq_true rfl) ?_
  (repeat (first
      | refine run_seq ?_
      | refine run_region_l ?_
      | refine rl_nil ?_
      | refine rl_step (by decide) (op_move rfl ?_)
      | refine rl_step (by decide) (op_assign rfl ?_)
      | refine run_block ?_
      | refine run_inBlock ?_
      | refine run_exit rfl ?_
      | refine run_skip ?_
      | refine run_label ?_
      | refine run_true rfl ?_
      | refine run_false rfl ?_
      | refine rl_yes rfl rfl ?_
      | refine rl_no rfl rfl rfl (by decide) ?_
      | refine rl_step (by decide) (op_pick_t rfl rfl ?_)
      | refine rl_step (by decide) (op_pick_f rfl rfl ?_)
      | refine rl_step (by decide) (op_lss rfl rfl ?_)
      | refine rl_step (by decide) (op_leq rfl rfl ?_)
      | refine rl_step (by decide) (op_gtr rfl rfl ?_)
      | refine rl_step (by decide) (op_geq rfl rfl ?_)
      | refine rl_step (by decide) (op_eql rfl rfl ?_)
      | refine rl_step (by decide) (op_neq rfl rfl ?_)
      | refine rl_step (by decide) (op_not rfl ?_)
      | refine rl_step (by decide) (op_min rfl rfl ?_)
      | refine rl_step (by decide) (op_max rfl rfl ?_)
      | refine rl_step (by decide) (op_extract rfl rfl ?_)
      | refine rl_step (by decide) (op_add rfl rfl (by omega) ?_)
      | refine rl_step (by decide) (op_sub rfl rfl (by omega) ?_)
      | refine rl_step (by decide) (op_neg rfl (by omega) ?_)))
  refine rl_step (by decide) (op_len uLL rfl hs ?_)
  (repeat (first
      | refine run_seq ?_
      | refine run_region_l ?_
      | refine rl_nil ?_
      | refine rl_step (by decide) (op_move rfl ?_)
      | refine rl_step (by decide) (op_assign rfl ?_)
      | refine run_block ?_
      | refine run_inBlock ?_
      | refine run_exit rfl ?_
      | refine run_skip ?_
      | refine run_label ?_
      | refine run_true rfl ?_
      | refine run_false rfl ?_
      | refine rl_yes rfl rfl ?_
      | refine rl_no rfl rfl rfl (by decide) ?_
      | refine rl_step (by decide) (op_pick_t rfl rfl ?_)
      | refine rl_step (by decide) (op_pick_f rfl rfl ?_)
      | refine rl_step (by decide) (op_lss rfl rfl ?_)
      | refine rl_step (by decide) (op_leq rfl rfl ?_)
      | refine rl_step (by decide) (op_gtr rfl rfl ?_)
      | refine rl_step (by decide) (op_geq rfl rfl ?_)
      | refine rl_step (by decide) (op_eql rfl rfl ?_)
      | refine rl_step (by decide) (op_neq rfl rfl ?_)
      | refine rl_step (by decide) (op_not rfl ?_)
      | refine rl_step (by decide) (op_min rfl rfl ?_)
      | refine rl_step (by decide) (op_max rfl rfl ?_)
      | refine rl_step (by decide) (op_extract rfl rfl ?_)
      | refine rl_step (by decide) (op_add rfl rfl (by omega) ?_)
      | refine rl_step (by decide) (op_sub rfl rfl (by omega) ?_)
      | refine rl_step (by decide) (op_neg rfl (by omega) ?_)))
  refine (run_loop (α := Nat) (fun k => [(0, v), (1, .func (.func 62) #[] #[]), (7, .int .i64 l.length), (8, .int .i64 k)])
    (fun k w' => k ≤ l.length ∧ w' = w ∧ idxM (fun x => decide ((x.length : Int) = 0)) (l.drop k) k = idxM (fun x => decide ((x.length : Int) = 0)) l 0) (fun k => l.length - k) 0 ⟨Nat.zero_le _, rfl, rfl⟩ ?_).sub (by repeat (first | exact trivial | refine ⟨rfl, ?_⟩))
  rintro k w' ⟨hk, rfl, hI⟩ ih
  (repeat (first
      | refine run_seq ?_
      | refine run_region_l ?_
      | refine rl_nil ?_
      | refine rl_step (by decide) (op_move rfl ?_)
      | refine rl_step (by decide) (op_assign rfl ?_)
      | refine run_block ?_
      | refine run_inBlock ?_
      | refine run_exit rfl ?_
      | refine run_skip ?_
      | refine run_label ?_
      | refine run_true rfl ?_
      | refine run_false rfl ?_
      | refine rl_yes rfl rfl ?_
      | refine rl_no rfl rfl rfl (by decide) ?_
      | refine rl_step (by decide) (op_pick_t rfl rfl ?_)
      | refine rl_step (by decide) (op_pick_f rfl rfl ?_)
      | refine rl_step (by decide) (op_lss rfl rfl ?_)
      | refine rl_step (by decide) (op_leq rfl rfl ?_)
      | refine rl_step (by decide) (op_gtr rfl rfl ?_)
      | refine rl_step (by decide) (op_geq rfl rfl ?_)
      | refine rl_step (by decide) (op_eql rfl rfl ?_)
      | refine rl_step (by decide) (op_neq rfl rfl ?_)
      | refine rl_step (by decide) (op_not rfl ?_)
      | refine rl_step (by decide) (op_min rfl rfl ?_)
      | refine rl_step (by decide) (op_max rfl rfl ?_)
      | refine rl_step (by decide) (op_extract rfl rfl ?_)
      | refine rl_step (by decide) (op_add rfl rfl (by omega) ?_)
      | refine rl_step (by decide) (op_sub rfl rfl (by omega) ?_)
      | refine rl_step (by decide) (op_neg rfl (by omega) ?_)))
  refine run_if rfl (fun hlt => ?_) (fun hlt => ?_)
  · have hk' : k < l.length := by omega
    have hstep := idxM_drop (fun x : List Line => decide ((x.length : Int) = 0)) l k hk' k
    (repeat (first
        | refine run_seq ?_
        | refine run_region_l ?_
        | refine rl_nil ?_
        | refine rl_step (by decide) (op_move rfl ?_)
        | refine rl_step (by decide) (op_assign rfl ?_)
        | refine run_block ?_
        | refine run_inBlock ?_
        | refine run_exit rfl ?_
        | refine run_skip ?_
        | refine run_label ?_
        | refine run_true rfl ?_
        | refine run_false rfl ?_
        | refine rl_yes rfl rfl ?_
        | refine rl_no rfl rfl rfl (by decide) ?_
        | refine rl_step (by decide) (op_pick_t rfl rfl ?_)
        | refine rl_step (by decide) (op_pick_f rfl rfl ?_)
        | refine rl_step (by decide) (op_lss rfl rfl ?_)
        | refine rl_step (by decide) (op_leq rfl rfl ?_)
        | refine rl_step (by decide) (op_gtr rfl rfl ?_)
        | refine rl_step (by decide) (op_geq rfl rfl ?_)
        | refine rl_step (by decide) (op_eql rfl rfl ?_)
        | refine rl_step (by decide) (op_neq rfl rfl ?_)
        | refine rl_step (by decide) (op_not rfl ?_)
        | refine rl_step (by decide) (op_min rfl rfl ?_)
        | refine rl_step (by decide) (op_max rfl rfl ?_)
        | refine rl_step (by decide) (op_extract rfl rfl ?_)
        | refine rl_step (by decide) (op_add rfl rfl (by omega) ?_)
        | refine rl_step (by decide) (op_sub rfl rfl (by omega) ?_)
        | refine rl_step (by decide) (op_neg rfl (by omega) ?_)))
    refine rl_step (by decide) (op_indexAddr uLL teSL rfl rfl hs (by omega) ?_)
    intro ad hn he
    (repeat (first
        | refine run_seq ?_
        | refine run_region_l ?_
        | refine rl_nil ?_
        | refine rl_step (by decide) (op_move rfl ?_)
        | refine rl_step (by decide) (op_assign rfl ?_)
        | refine run_block ?_
        | refine run_inBlock ?_
        | refine run_exit rfl ?_
        | refine run_skip ?_
        | refine run_label ?_
        | refine run_true rfl ?_
        | refine run_false rfl ?_
        | refine rl_yes rfl rfl ?_
        | refine rl_no rfl rfl rfl (by decide) ?_
        | refine rl_step (by decide) (op_pick_t rfl rfl ?_)
        | refine rl_step (by decide) (op_pick_f rfl rfl ?_)
        | refine rl_step (by decide) (op_lss rfl rfl ?_)
        | refine rl_step (by decide) (op_leq rfl rfl ?_)
        | refine rl_step (by decide) (op_gtr rfl rfl ?_)
        | refine rl_step (by decide) (op_geq rfl rfl ?_)
        | refine rl_step (by decide) (op_eql rfl rfl ?_)
        | refine rl_step (by decide) (op_neq rfl rfl ?_)
        | refine rl_step (by decide) (op_not rfl ?_)
        | refine rl_step (by decide) (op_min rfl rfl ?_)
        | refine rl_step (by decide) (op_max rfl rfl ?_)
        | refine rl_step (by decide) (op_extract rfl rfl ?_)
        | refine rl_step (by decide) (op_add rfl rfl (by omega) ?_)
        | refine rl_step (by decide) (op_sub rfl rfl (by omega) ?_)
        | refine rl_step (by decide) (op_neg rfl (by omega) ?_)))
    refine rl_step (by decide) (op_load teSL rfl he ?_)
    intro u hu
    rw [eSl_V] at hu
    refine rl_step (by decide) (op_callv (cap := []) ent62 rfl rfl (checkL_c M _ _ _ hu) ?_)
    rintro r w1 ⟨rfl, rfl⟩
    (repeat (first
        | refine run_seq ?_
        | refine run_region_l ?_
        | refine rl_nil ?_
        | refine rl_step (by decide) (op_move rfl ?_)
        | refine rl_step (by decide) (op_assign rfl ?_)
        | refine run_block ?_
        | refine run_inBlock ?_
        | refine run_exit rfl ?_
        | refine run_skip ?_
        | refine run_label ?_
        | refine run_true rfl ?_
        | refine run_false rfl ?_
        | refine rl_yes rfl rfl ?_
        | refine rl_no rfl rfl rfl (by decide) ?_
        | refine rl_step (by decide) (op_pick_t rfl rfl ?_)
        | refine rl_step (by decide) (op_pick_f rfl rfl ?_)
        | refine rl_step (by decide) (op_lss rfl rfl ?_)
        | refine rl_step (by decide) (op_leq rfl rfl ?_)
        | refine rl_step (by decide) (op_gtr rfl rfl ?_)
        | refine rl_step (by decide) (op_geq rfl rfl ?_)
        | refine rl_step (by decide) (op_eql rfl rfl ?_)
        | refine rl_step (by decide) (op_neq rfl rfl ?_)
        | refine rl_step (by decide) (op_not rfl ?_)
        | refine rl_step (by decide) (op_min rfl rfl ?_)
        | refine rl_step (by decide) (op_max rfl rfl ?_)
        | refine rl_step (by decide) (op_extract rfl rfl ?_)
        | refine rl_step (by decide) (op_add rfl rfl (by omega) ?_)
        | refine rl_step (by decide) (op_sub rfl rfl (by omega) ?_)
        | refine rl_step (by decide) (op_neg rfl (by omega) ?_)))
    simp only [Int.toNat_natCast]
    refine run_if rfl (fun h => ?_) (fun h => ?_)
    · (repeat (first
          | refine run_seq ?_
          | refine run_region_l ?_
          | refine rl_nil ?_
          | refine rl_step (by decide) (op_move rfl ?_)
          | refine rl_step (by decide) (op_assign rfl ?_)
          | refine run_block ?_
          | refine run_inBlock ?_
          | refine run_exit rfl ?_
          | refine run_skip ?_
          | refine run_label ?_
          | refine run_true rfl ?_
          | refine run_false rfl ?_
          | refine rl_yes rfl rfl ?_
          | refine rl_no rfl rfl rfl (by decide) ?_
          | refine rl_step (by decide) (op_pick_t rfl rfl ?_)
          | refine rl_step (by decide) (op_pick_f rfl rfl ?_)
          | refine rl_step (by decide) (op_lss rfl rfl ?_)
          | refine rl_step (by decide) (op_leq rfl rfl ?_)
          | refine rl_step (by decide) (op_gtr rfl rfl ?_)
          | refine rl_step (by decide) (op_geq rfl rfl ?_)
          | refine rl_step (by decide) (op_eql rfl rfl ?_)
          | refine rl_step (by decide) (op_neq rfl rfl ?_)
          | refine rl_step (by decide) (op_not rfl ?_)
          | refine rl_step (by decide) (op_min rfl rfl ?_)
          | refine rl_step (by decide) (op_max rfl rfl ?_)
          | refine rl_step (by decide) (op_extract rfl rfl ?_)
          | refine rl_step (by decide) (op_add rfl rfl (by omega) ?_)
          | refine rl_step (by decide) (op_sub rfl rfl (by omega) ?_)
          | refine rl_step (by decide) (op_neg rfl (by omega) ?_)))
      refine run_ret1 Try.func67 rfl rfl ?_
      refine ⟨?_, rfl⟩
      rw [← hI, hstep, if_pos (by simpa using h)]
    · (repeat (first
          | refine run_seq ?_
          | refine run_region_l ?_
          | refine rl_nil ?_
          | refine rl_step (by decide) (op_move rfl ?_)
          | refine rl_step (by decide) (op_assign rfl ?_)
          | refine run_block ?_
          | refine run_inBlock ?_
          | refine run_exit rfl ?_
          | refine run_skip ?_
          | refine run_label ?_
          | refine run_true rfl ?_
          | refine run_false rfl ?_
          | refine rl_yes rfl rfl ?_
          | refine rl_no rfl rfl rfl (by decide) ?_
          | refine rl_step (by decide) (op_pick_t rfl rfl ?_)
          | refine rl_step (by decide) (op_pick_f rfl rfl ?_)
          | refine rl_step (by decide) (op_lss rfl rfl ?_)
          | refine rl_step (by decide) (op_leq rfl rfl ?_)
          | refine rl_step (by decide) (op_gtr rfl rfl ?_)
          | refine rl_step (by decide) (op_geq rfl rfl ?_)
          | refine rl_step (by decide) (op_eql rfl rfl ?_)
          | refine rl_step (by decide) (op_neq rfl rfl ?_)
          | refine rl_step (by decide) (op_not rfl ?_)
          | refine rl_step (by decide) (op_min rfl rfl ?_)
          | refine rl_step (by decide) (op_max rfl rfl ?_)
          | refine rl_step (by decide) (op_extract rfl rfl ?_)
          | refine rl_step (by decide) (op_add rfl rfl (by omega) ?_)
          | refine rl_step (by decide) (op_sub rfl rfl (by omega) ?_)
          | refine rl_step (by decide) (op_neg rfl (by omega) ?_)))
      refine (ih (k + 1) _ ⟨by omega, rfl, ?_⟩ (by omega)).sub (by repeat (first | exact trivial | refine ⟨rfl, ?_⟩))
      rw [← hI, hstep, if_neg (by simpa using h)]
      rfl
  · (repeat (first
        | refine run_seq ?_
        | refine run_region_l ?_
        | refine rl_nil ?_
        | refine rl_step (by decide) (op_move rfl ?_)
        | refine rl_step (by decide) (op_assign rfl ?_)
        | refine run_block ?_
        | refine run_inBlock ?_
        | refine run_exit rfl ?_
        | refine run_skip ?_
        | refine run_label ?_
        | refine run_true rfl ?_
        | refine run_false rfl ?_
        | refine rl_yes rfl rfl ?_
        | refine rl_no rfl rfl rfl (by decide) ?_
        | refine rl_step (by decide) (op_pick_t rfl rfl ?_)
        | refine rl_step (by decide) (op_pick_f rfl rfl ?_)
        | refine rl_step (by decide) (op_lss rfl rfl ?_)
        | refine rl_step (by decide) (op_leq rfl rfl ?_)
        | refine rl_step (by decide) (op_gtr rfl rfl ?_)
        | refine rl_step (by decide) (op_geq rfl rfl ?_)
        | refine rl_step (by decide) (op_eql rfl rfl ?_)
        | refine rl_step (by decide) (op_neq rfl rfl ?_)
        | refine rl_step (by decide) (op_not rfl ?_)
        | refine rl_step (by decide) (op_min rfl rfl ?_)
        | refine rl_step (by decide) (op_max rfl rfl ?_)
        | refine rl_step (by decide) (op_extract rfl rfl ?_)
        | refine rl_step (by decide) (op_add rfl rfl (by omega) ?_)
        | refine rl_step (by decide) (op_sub rfl rfl (by omega) ?_)
        | refine rl_step (by decide) (op_neg rfl (by omega) ?_)))
    refine run_ret1 Try.func67 rfl rfl ?_
    refine ⟨?_, rfl⟩
    rw [← hI, List.drop_eq_nil_of_le (by omega)]
    rfl

theorem containsL_c (M : Mut) (v : Value) (l : List (List Line)) (w : World) (hs : SlOf (eSl eLine) M w v l) :
    CallsV Try.prog 61 [v, .func (.func 62) #[] #[]] w (fun u w' => u = .bool (l.any (fun x => decide ((x.length : Int) = 0))) ∧ w' = w) := by
  have hle := hs.le
  refine callsV_of_run Try.func61 rfl Try.ntmps61 (Nat.le_of_ble_eq_true rfl) ?_
  (repeat (first
      | refine run_seq ?_
      | refine run_region_l ?_
      | refine rl_nil ?_
      | refine rl_step (by decide) (op_move rfl ?_)
      | refine rl_step (by decide) (op_assign rfl ?_)
      | refine run_block ?_
      | refine run_inBlock ?_
      | refine run_exit rfl ?_
      | refine run_skip ?_
      | refine run_label ?_
      | refine run_true rfl ?_
      | refine run_false rfl ?_
      | refine rl_yes rfl rfl ?_
      | refine rl_no rfl rfl rfl (by decide) ?_
      | refine rl_step (by decide) (op_pick_t rfl rfl ?_)
      | refine rl_step (by decide) (op_pick_f rfl rfl ?_)
      | refine rl_step (by decide) (op_lss rfl rfl ?_)
      | refine rl_step (by decide) (op_leq rfl rfl ?_)
      | refine rl_step (by decide) (op_gtr rfl rfl ?_)
      | refine rl_step (by decide) (op_geq rfl rfl ?_)
      | refine rl_step (by decide) (op_eql rfl rfl ?_)
      | refine rl_step (by decide) (op_neq rfl rfl ?_)
      | refine rl_step (by decide) (op_not rfl ?_)
      | refine rl_step (by decide) (op_min rfl rfl ?_)
      | refine rl_step (by decide) (op_max rfl rfl ?_)
      | refine rl_step (by decide) (op_extract rfl rfl ?_)
      | refine rl_step (by decide) (op_add rfl rfl (by omega) ?_)
      | refine rl_step (by decide) (op_sub rfl rfl (by omega) ?_)
      | refine rl_step (by decide) (op_neg rfl (by omega) ?_)))
  refine rl_step (by decide) (op_call ent67 rfl (indexL_c M _ _ _ hs) ?_)
  rintro r w1 ⟨rfl, rfl⟩
  (repeat (first
      | refine run_seq ?_
      | refine run_region_l ?_
      | refine rl_nil ?_
      | refine rl_step (by decide) (op_move rfl ?_)
      | refine rl_step (by decide) (op_assign rfl ?_)
      | refine run_block ?_
      | refine run_inBlock ?_
      | refine run_exit rfl ?_
      | refine run_skip ?_
      | refine run_label ?_
      | refine run_true rfl ?_
      | refine run_false rfl ?_
      | refine rl_yes rfl rfl ?_
      | refine rl_no rfl rfl rfl (by decide) ?_
      | refine rl_step (by decide) (op_pick_t rfl rfl ?_)
      | refine rl_step (by decide) (op_pick_f rfl rfl ?_)
      | refine rl_step (by decide) (op_lss rfl rfl ?_)
      | refine rl_step (by decide) (op_leq rfl rfl ?_)
      | refine rl_step (by decide) (op_gtr rfl rfl ?_)
      | refine rl_step (by decide) (op_geq rfl rfl ?_)
      | refine rl_step (by decide) (op_eql rfl rfl ?_)
      | refine rl_step (by decide) (op_neq rfl rfl ?_)
      | refine rl_step (by decide) (op_not rfl ?_)
      | refine rl_step (by decide) (op_min rfl rfl ?_)
      | refine rl_step (by decide) (op_max rfl rfl ?_)
      | refine rl_step (by decide) (op_extract rfl rfl ?_)
      | refine rl_step (by decide) (op_add rfl rfl (by omega) ?_)
      | refine rl_step (by decide) (op_sub rfl rfl (by omega) ?_)
      | refine rl_step (by decide) (op_neg rfl (by omega) ?_)))
  refine run_ret1 Try.func61 rfl rfl ?_
  refine ⟨?_, rfl⟩
  congr 1
  rw [Bool.eq_iff_iff, decide_eq_true_eq]
  exact idxM_any _ l 0 (by omega)

theorem check_c (M : Mut) (vb vn : Value) (body : List Line) (notes : List (List Line)) (h : Int) (w : World) (hm : MB M w) (hb : SlOf eLine M w vb body) (hn : SlOf (eSl eLine) M w vn notes) :
    CallsV Try.prog 43 [vb, vn, .int .i64 h] w (fun u w' => u = .int .i64 (chkM body notes h) ∧ Below w.heap.size w w') := by
  have hr := Rn.refl hm
  have hle := hb.le
  have hle2 := hn.le
  unfold chkM
  refine callsV_of_run Try.func43 rfl Try.ntmps43 (Nat.le_of_ble_eq_true rfl) ?_
  (repeat (first
      | refine run_seq ?_
      | refine run_region_l ?_
      | refine rl_nil ?_
      | refine rl_step (by decide) (op_move rfl ?_)
      | refine rl_step (by decide) (op_assign rfl ?_)
      | refine run_block ?_
      | refine run_inBlock ?_
      | refine run_exit rfl ?_
      | refine run_skip ?_
      | refine run_label ?_
      | refine run_true rfl ?_
      | refine run_false rfl ?_
      | refine rl_yes rfl rfl ?_
      | refine rl_no rfl rfl rfl (by decide) ?_
      | refine rl_step (by decide) (op_pick_t rfl rfl ?_)
      | refine rl_step (by decide) (op_pick_f rfl rfl ?_)
      | refine rl_step (by decide) (op_lss rfl rfl ?_)
      | refine rl_step (by decide) (op_leq rfl rfl ?_)
      | refine rl_step (by decide) (op_gtr rfl rfl ?_)
      | refine rl_step (by decide) (op_geq rfl rfl ?_)
      | refine rl_step (by decide) (op_eql rfl rfl ?_)
      | refine rl_step (by decide) (op_neq rfl rfl ?_)
      | refine rl_step (by decide) (op_not rfl ?_)
      | refine rl_step (by decide) (op_min rfl rfl ?_)
      | refine rl_step (by decide) (op_max rfl rfl ?_)
      | refine rl_step (by decide) (op_extract rfl rfl ?_)
      | refine rl_step (by decide) (op_add rfl rfl (by omega) ?_)
      | refine rl_step (by decide) (op_sub rfl rfl (by omega) ?_)
      | refine rl_step (by decide) (op_neg rfl (by omega) ?_)))
  refine run_if rfl (fun h1 => ?_) (fun h1 => ?_)
  · (repeat (first
        | refine run_seq ?_
        | refine run_region_l ?_
        | refine rl_nil ?_
        | refine rl_step (by decide) (op_move rfl ?_)
        | refine rl_step (by decide) (op_assign rfl ?_)
        | refine run_block ?_
        | refine run_inBlock ?_
        | refine run_exit rfl ?_
        | refine run_skip ?_
        | refine run_label ?_
        | refine run_true rfl ?_
        | refine run_false rfl ?_
        | refine rl_yes rfl rfl ?_
        | refine rl_no rfl rfl rfl (by decide) ?_
        | refine rl_step (by decide) (op_pick_t rfl rfl ?_)
        | refine rl_step (by decide) (op_pick_f rfl rfl ?_)
        | refine rl_step (by decide) (op_lss rfl rfl ?_)
        | refine rl_step (by decide) (op_leq rfl rfl ?_)
        | refine rl_step (by decide) (op_gtr rfl rfl ?_)
        | refine rl_step (by decide) (op_geq rfl rfl ?_)
        | refine rl_step (by decide) (op_eql rfl rfl ?_)
        | refine rl_step (by decide) (op_neq rfl rfl ?_)
        | refine rl_step (by decide) (op_not rfl ?_)
        | refine rl_step (by decide) (op_min rfl rfl ?_)
        | refine rl_step (by decide) (op_max rfl rfl ?_)
        | refine rl_step (by decide) (op_extract rfl rfl ?_)
        | refine rl_step (by decide) (op_add rfl rfl (by omega) ?_)
        | refine rl_step (by decide) (op_sub rfl rfl (by omega) ?_)
        | refine rl_step (by decide) (op_neg rfl (by omega) ?_)))
    refine run_yes rfl h1 ?_
    (repeat (first
        | refine run_seq ?_
        | refine run_region_l ?_
        | refine rl_nil ?_
        | refine rl_step (by decide) (op_move rfl ?_)
        | refine rl_step (by decide) (op_assign rfl ?_)
        | refine run_block ?_
        | refine run_inBlock ?_
        | refine run_exit rfl ?_
        | refine run_skip ?_
        | refine run_label ?_
        | refine run_true rfl ?_
        | refine run_false rfl ?_
        | refine rl_yes rfl rfl ?_
        | refine rl_no rfl rfl rfl (by decide) ?_
        | refine rl_step (by decide) (op_pick_t rfl rfl ?_)
        | refine rl_step (by decide) (op_pick_f rfl rfl ?_)
        | refine rl_step (by decide) (op_lss rfl rfl ?_)
        | refine rl_step (by decide) (op_leq rfl rfl ?_)
        | refine rl_step (by decide) (op_gtr rfl rfl ?_)
        | refine rl_step (by decide) (op_geq rfl rfl ?_)
        | refine rl_step (by decide) (op_eql rfl rfl ?_)
        | refine rl_step (by decide) (op_neq rfl rfl ?_)
        | refine rl_step (by decide) (op_not rfl ?_)
        | refine rl_step (by decide) (op_min rfl rfl ?_)
        | refine rl_step (by decide) (op_max rfl rfl ?_)
        | refine rl_step (by decide) (op_extract rfl rfl ?_)
        | refine rl_step (by decide) (op_add rfl rfl (by omega) ?_)
        | refine rl_step (by decide) (op_sub rfl rfl (by omega) ?_)
        | refine rl_step (by decide) (op_neg rfl (by omega) ?_)))
    refine run_ret1 Try.func43 rfl rfl ?_
    exact ⟨by rw [if_pos (Or.inl h1)], Below.refl _ _⟩
  (repeat (first
      | refine run_seq ?_
      | refine run_region_l ?_
      | refine rl_nil ?_
      | refine rl_step (by decide) (op_move rfl ?_)
      | refine rl_step (by decide) (op_assign rfl ?_)
      | refine run_block ?_
      | refine run_inBlock ?_
      | refine run_exit rfl ?_
      | refine run_skip ?_
      | refine run_label ?_
      | refine run_true rfl ?_
      | refine run_false rfl ?_
      | refine rl_yes rfl rfl ?_
      | refine rl_no rfl rfl rfl (by decide) ?_
      | refine rl_step (by decide) (op_pick_t rfl rfl ?_)
      | refine rl_step (by decide) (op_pick_f rfl rfl ?_)
      | refine rl_step (by decide) (op_lss rfl rfl ?_)
      | refine rl_step (by decide) (op_leq rfl rfl ?_)
      | refine rl_step (by decide) (op_gtr rfl rfl ?_)
      | refine rl_step (by decide) (op_geq rfl rfl ?_)
      | refine rl_step (by decide) (op_eql rfl rfl ?_)
      | refine rl_step (by decide) (op_neq rfl rfl ?_)
      | refine rl_step (by decide) (op_not rfl ?_)
      | refine rl_step (by decide) (op_min rfl rfl ?_)
      | refine rl_step (by decide) (op_max rfl rfl ?_)
      | refine rl_step (by decide) (op_extract rfl rfl ?_)
      | refine rl_step (by decide) (op_add rfl rfl (by omega) ?_)
      | refine rl_step (by decide) (op_sub rfl rfl (by omega) ?_)
      | refine rl_step (by decide) (op_neg rfl (by omega) ?_)))
  refine run_if rfl (fun h2 => ?_) (fun h2 => ?_)
  · (repeat (first
        | refine run_seq ?_
        | refine run_region_l ?_
        | refine rl_nil ?_
        | refine rl_step (by decide) (op_move rfl ?_)
        | refine rl_step (by decide) (op_assign rfl ?_)
        | refine run_block ?_
        | refine run_inBlock ?_
        | refine run_exit rfl ?_
        | refine run_skip ?_
        | refine run_label ?_
        | refine run_true rfl ?_
        | refine run_false rfl ?_
        | refine rl_yes rfl rfl ?_
        | refine rl_no rfl rfl rfl (by decide) ?_
        | refine rl_step (by decide) (op_pick_t rfl rfl ?_)
        | refine rl_step (by decide) (op_pick_f rfl rfl ?_)
        | refine rl_step (by decide) (op_lss rfl rfl ?_)
        | refine rl_step (by decide) (op_leq rfl rfl ?_)
        | refine rl_step (by decide) (op_gtr rfl rfl ?_)
        | refine rl_step (by decide) (op_geq rfl rfl ?_)
        | refine rl_step (by decide) (op_eql rfl rfl ?_)
        | refine rl_step (by decide) (op_neq rfl rfl ?_)
        | refine rl_step (by decide) (op_not rfl ?_)
        | refine rl_step (by decide) (op_min rfl rfl ?_)
        | refine rl_step (by decide) (op_max rfl rfl ?_)
        | refine rl_step (by decide) (op_extract rfl rfl ?_)
        | refine rl_step (by decide) (op_add rfl rfl (by omega) ?_)
        | refine rl_step (by decide) (op_sub rfl rfl (by omega) ?_)
        | refine rl_step (by decide) (op_neg rfl (by omega) ?_)))
    refine run_ret1 Try.func43 rfl rfl ?_
    exact ⟨by rw [if_pos (Or.inr h2)], Below.refl _ _⟩
  rw [if_neg (by omega)]
  (repeat (first
      | refine run_seq ?_
      | refine run_region_l ?_
      | refine rl_nil ?_
      | refine rl_step (by decide) (op_move rfl ?_)
      | refine rl_step (by decide) (op_assign rfl ?_)
      | refine run_block ?_
      | refine run_inBlock ?_
      | refine run_exit rfl ?_
      | refine run_skip ?_
      | refine run_label ?_
      | refine run_true rfl ?_
      | refine run_false rfl ?_
      | refine rl_yes rfl rfl ?_
      | refine rl_no rfl rfl rfl (by decide) ?_
      | refine rl_step (by decide) (op_pick_t rfl rfl ?_)
      | refine rl_step (by decide) (op_pick_f rfl rfl ?_)
      | refine rl_step (by decide) (op_lss rfl rfl ?_)
      | refine rl_step (by decide) (op_leq rfl rfl ?_)
      | refine rl_step (by decide) (op_gtr rfl rfl ?_)
      | refine rl_step (by decide) (op_geq rfl rfl ?_)
      | refine rl_step (by decide) (op_eql rfl rfl ?_)
      | refine rl_step (by decide) (op_neq rfl rfl ?_)
      | refine rl_step (by decide) (op_not rfl ?_)
      | refine rl_step (by decide) (op_min rfl rfl ?_)
      | refine rl_step (by decide) (op_max rfl rfl ?_)
      | refine rl_step (by decide) (op_extract rfl rfl ?_)
      | refine rl_step (by decide) (op_add rfl rfl (by omega) ?_)
      | refine rl_step (by decide) (op_sub rfl rfl (by omega) ?_)
      | refine rl_step (by decide) (op_neg rfl (by omega) ?_)))
  refine rl_step (by decide) (op_call ent61 rfl (containsL_c M _ _ _ hn) ?_)
  rintro r w1 ⟨rfl, rfl⟩
  (repeat (first
      | refine run_seq ?_
      | refine run_region_l ?_
      | refine rl_nil ?_
      | refine rl_step (by decide) (op_move rfl ?_)
      | refine rl_step (by decide) (op_assign rfl ?_)
      | refine run_block ?_
      | refine run_inBlock ?_
      | refine run_exit rfl ?_
      | refine run_skip ?_
      | refine run_label ?_
      | refine run_true rfl ?_
      | refine run_false rfl ?_
      | refine rl_yes rfl rfl ?_
      | refine rl_no rfl rfl rfl (by decide) ?_
      | refine rl_step (by decide) (op_pick_t rfl rfl ?_)
      | refine rl_step (by decide) (op_pick_f rfl rfl ?_)
      | refine rl_step (by decide) (op_lss rfl rfl ?_)
      | refine rl_step (by decide) (op_leq rfl rfl ?_)
      | refine rl_step (by decide) (op_gtr rfl rfl ?_)
      | refine rl_step (by decide) (op_geq rfl rfl ?_)
      | refine rl_step (by decide) (op_eql rfl rfl ?_)
      | refine rl_step (by decide) (op_neq rfl rfl ?_)
      | refine rl_step (by decide) (op_not rfl ?_)
      | refine rl_step (by decide) (op_min rfl rfl ?_)
      | refine rl_step (by decide) (op_max rfl rfl ?_)
      | refine rl_step (by decide) (op_extract rfl rfl ?_)
      | refine rl_step (by decide) (op_add rfl rfl (by omega) ?_)
      | refine rl_step (by decide) (op_sub rfl rfl (by omega) ?_)
      | refine rl_step (by decide) (op_neg rfl (by omega) ?_)))
  refine run_ifb rfl (fun h3 => ?_) (fun h3 => ?_)
  · (repeat (first
        | refine run_seq ?_
        | refine run_region_l ?_
        | refine rl_nil ?_
        | refine rl_step (by decide) (op_move rfl ?_)
        | refine rl_step (by decide) (op_assign rfl ?_)
        | refine run_block ?_
        | refine run_inBlock ?_
        | refine run_exit rfl ?_
        | refine run_skip ?_
        | refine run_label ?_
        | refine run_true rfl ?_
        | refine run_false rfl ?_
        | refine rl_yes rfl rfl ?_
        | refine rl_no rfl rfl rfl (by decide) ?_
        | refine rl_step (by decide) (op_pick_t rfl rfl ?_)
        | refine rl_step (by decide) (op_pick_f rfl rfl ?_)
        | refine rl_step (by decide) (op_lss rfl rfl ?_)
        | refine rl_step (by decide) (op_leq rfl rfl ?_)
        | refine rl_step (by decide) (op_gtr rfl rfl ?_)
        | refine rl_step (by decide) (op_geq rfl rfl ?_)
        | refine rl_step (by decide) (op_eql rfl rfl ?_)
        | refine rl_step (by decide) (op_neq rfl rfl ?_)
        | refine rl_step (by decide) (op_not rfl ?_)
        | refine rl_step (by decide) (op_min rfl rfl ?_)
        | refine rl_step (by decide) (op_max rfl rfl ?_)
        | refine rl_step (by decide) (op_extract rfl rfl ?_)
        | refine rl_step (by decide) (op_add rfl rfl (by omega) ?_)
        | refine rl_step (by decide) (op_sub rfl rfl (by omega) ?_)
        | refine rl_step (by decide) (op_neg rfl (by omega) ?_)))
    refine run_ret1 Try.func43 rfl rfl ?_
    exact ⟨by rw [if_pos h3], Below.refl _ _⟩
  rw [h3]
  simp only [Bool.false_eq_true, if_false]
  (repeat (first
      | refine run_seq ?_
      | refine run_region_l ?_
      | refine rl_nil ?_
      | refine rl_step (by decide) (op_move rfl ?_)
      | refine rl_step (by decide) (op_assign rfl ?_)
      | refine run_block ?_
      | refine run_inBlock ?_
      | refine run_exit rfl ?_
      | refine run_skip ?_
      | refine run_label ?_
      | refine run_true rfl ?_
      | refine run_false rfl ?_
      | refine rl_yes rfl rfl ?_
      | refine rl_no rfl rfl rfl (by decide) ?_
      | refine rl_step (by decide) (op_pick_t rfl rfl ?_)
      | refine rl_step (by decide) (op_pick_f rfl rfl ?_)
      | refine rl_step (by decide) (op_lss rfl rfl ?_)
      | refine rl_step (by decide) (op_leq rfl rfl ?_)
      | refine rl_step (by decide) (op_gtr rfl rfl ?_)
      | refine rl_step (by decide) (op_geq rfl rfl ?_)
      | refine rl_step (by decide) (op_eql rfl rfl ?_)
      | refine rl_step (by decide) (op_neq rfl rfl ?_)
      | refine rl_step (by decide) (op_not rfl ?_)
      | refine rl_step (by decide) (op_min rfl rfl ?_)
      | refine rl_step (by decide) (op_max rfl rfl ?_)
      | refine rl_step (by decide) (op_extract rfl rfl ?_)
      | refine rl_step (by decide) (op_add rfl rfl (by omega) ?_)
      | refine rl_step (by decide) (op_sub rfl rfl (by omega) ?_)
      | refine rl_step (by decide) (op_neg rfl (by omega) ?_)))
  refine rl_step (by decide) (op_len uL rfl hb ?_)
  (repeat (first
      | refine run_seq ?_
      | refine run_region_l ?_
      | refine rl_nil ?_
      | refine rl_step (by decide) (op_move rfl ?_)
      | refine rl_step (by decide) (op_assign rfl ?_)
      | refine run_block ?_
      | refine run_inBlock ?_
      | refine run_exit rfl ?_
      | refine run_skip ?_
      | refine run_label ?_
      | refine run_true rfl ?_
      | refine run_false rfl ?_
      | refine rl_yes rfl rfl ?_
      | refine rl_no rfl rfl rfl (by decide) ?_
      | refine rl_step (by decide) (op_pick_t rfl rfl ?_)
      | refine rl_step (by decide) (op_pick_f rfl rfl ?_)
      | refine rl_step (by decide) (op_lss rfl rfl ?_)
      | refine rl_step (by decide) (op_leq rfl rfl ?_)
      | refine rl_step (by decide) (op_gtr rfl rfl ?_)
      | refine rl_step (by decide) (op_geq rfl rfl ?_)
      | refine rl_step (by decide) (op_eql rfl rfl ?_)
      | refine rl_step (by decide) (op_neq rfl rfl ?_)
      | refine rl_step (by decide) (op_not rfl ?_)
      | refine rl_step (by decide) (op_min rfl rfl ?_)
      | refine rl_step (by decide) (op_max rfl rfl ?_)
      | refine rl_step (by decide) (op_extract rfl rfl ?_)
      | refine rl_step (by decide) (op_add rfl rfl (by omega) ?_)
      | refine rl_step (by decide) (op_sub rfl rfl (by omega) ?_)
      | refine rl_step (by decide) (op_neg rfl (by omega) ?_)))
  refine (run_loop (α := Nat × Int × Mut) (fun x => [(0, vb), (1, vn), (7, .int .i64 x.2.1), (20, vb), (21, .int .i64 body.length), (22, .int .i64 x.1)])
    (fun x w' => x.1 ≤ body.length ∧ 0 ≤ x.2.1 ∧ x.2.1 ≤ notes.length ∧ Rn M w1 x.2.2 w' ∧ SlOf eLine x.2.2 w' vb body ∧ SlOf (eSl eLine) x.2.2 w' vn notes ∧ ordM (refs (body.drop x.1)) x.2.1 notes.length = ordM (refs body) 0 notes.length)
    (fun x => body.length - x.1) (0, 0, M) ⟨Nat.zero_le _, Int.le_refl _, by simp, hr, hb, hn, rfl⟩ ?_).sub (by repeat (first | exact trivial | refine ⟨rfl, ?_⟩))
  clear hb hn hr
  rintro ⟨k, next, M1⟩ w2 ⟨hk, hn0, hn1, hr, hb, hn, hI⟩ ih
  simp only at hk hn0 hn1 hr hb hn hI ih
  (repeat (first
      | refine run_seq ?_
      | refine run_region_l ?_
      | refine rl_nil ?_
      | refine rl_step (by decide) (op_move rfl ?_)
      | refine rl_step (by decide) (op_assign rfl ?_)
      | refine run_block ?_
      | refine run_inBlock ?_
      | refine run_exit rfl ?_
      | refine run_skip ?_
      | refine run_label ?_
      | refine run_true rfl ?_
      | refine run_false rfl ?_
      | refine rl_yes rfl rfl ?_
      | refine rl_no rfl rfl rfl (by decide) ?_
      | refine rl_step (by decide) (op_pick_t rfl rfl ?_)
      | refine rl_step (by decide) (op_pick_f rfl rfl ?_)
      | refine rl_step (by decide) (op_lss rfl rfl ?_)
      | refine rl_step (by decide) (op_leq rfl rfl ?_)
      | refine rl_step (by decide) (op_gtr rfl rfl ?_)
      | refine rl_step (by decide) (op_geq rfl rfl ?_)
      | refine rl_step (by decide) (op_eql rfl rfl ?_)
      | refine rl_step (by decide) (op_neq rfl rfl ?_)
      | refine rl_step (by decide) (op_not rfl ?_)
      | refine rl_step (by decide) (op_min rfl rfl ?_)
      | refine rl_step (by decide) (op_max rfl rfl ?_)
      | refine rl_step (by decide) (op_extract rfl rfl ?_)
      | refine rl_step (by decide) (op_add rfl rfl (by omega) ?_)
      | refine rl_step (by decide) (op_sub rfl rfl (by omega) ?_)
      | refine rl_step (by decide) (op_neg rfl (by omega) ?_)))
  refine run_if rfl (fun hlt => ?_) (fun hlt => ?_)
  · have hk' : k < body.length := by omega
    rw [refs_drop body k hk'] at hI
    (repeat (first
        | refine run_seq ?_
        | refine run_region_l ?_
        | refine rl_nil ?_
        | refine rl_step (by decide) (op_move rfl ?_)
        | refine rl_step (by decide) (op_assign rfl ?_)
        | refine run_block ?_
        | refine run_inBlock ?_
        | refine run_exit rfl ?_
        | refine run_skip ?_
        | refine run_label ?_
        | refine run_true rfl ?_
        | refine run_false rfl ?_
        | refine rl_yes rfl rfl ?_
        | refine rl_no rfl rfl rfl (by decide) ?_
        | refine rl_step (by decide) (op_pick_t rfl rfl ?_)
        | refine rl_step (by decide) (op_pick_f rfl rfl ?_)
        | refine rl_step (by decide) (op_lss rfl rfl ?_)
        | refine rl_step (by decide) (op_leq rfl rfl ?_)
        | refine rl_step (by decide) (op_gtr rfl rfl ?_)
        | refine rl_step (by decide) (op_geq rfl rfl ?_)
        | refine rl_step (by decide) (op_eql rfl rfl ?_)
        | refine rl_step (by decide) (op_neq rfl rfl ?_)
        | refine rl_step (by decide) (op_not rfl ?_)
        | refine rl_step (by decide) (op_min rfl rfl ?_)
        | refine rl_step (by decide) (op_max rfl rfl ?_)
        | refine rl_step (by decide) (op_extract rfl rfl ?_)
        | refine rl_step (by decide) (op_add rfl rfl (by omega) ?_)
        | refine rl_step (by decide) (op_sub rfl rfl (by omega) ?_)
        | refine rl_step (by decide) (op_neg rfl (by omega) ?_)))
    refine rl_step (by decide) (op_indexAddr uL teL rfl rfl hb (by omega) ?_)
    intro ad hn' he
    refine rl_step (by decide) (op_load teL rfl he ?_)
    intro u hu
    rw [eLine_V] at hu
    simp only [Int.toNat_natCast] at hu
    refine rl_step (by decide) (op_alloc 9 hr tdL ?_)
    intro b w3 M2 hbge hbox hs
    replace hb := hb.mono hs.x
    replace hn := hn.mono hs.x
    obtain ⟨g, n, rfl, hu1, hu2, hu3, hu4⟩ := hu
    replace hu3 := hu3.mono hs.x
    replace hu4 := hu4.mono hs.x
    replace hr := hr.up hs
    clear hs
    refine rl_step0 (op_store tdL rfl rfl rfl (eLine.one (eLine_R.2 ⟨g, n, rfl, hu1, hu2, hu3, hu4⟩)) rfl hr hbge hbox (Nat.le_of_ble_eq_true rfl) ?_)
    intro w4 hbox hs
    replace hb := hb.mono hs.x
    replace hn := hn.mono hs.x
    replace hu4 := hu4.mono hs.x
    replace hr := hr.st hs
    clear hs hu3
    (repeat (first
        | refine run_seq ?_
        | refine run_region_l ?_
        | refine rl_nil ?_
        | refine rl_step (by decide) (op_move rfl ?_)
        | refine rl_step (by decide) (op_assign rfl ?_)
        | refine run_block ?_
        | refine run_inBlock ?_
        | refine run_exit rfl ?_
        | refine run_skip ?_
        | refine run_label ?_
        | refine run_true rfl ?_
        | refine run_false rfl ?_
        | refine rl_yes rfl rfl ?_
        | refine rl_no rfl rfl rfl (by decide) ?_
        | refine rl_step (by decide) (op_pick_t rfl rfl ?_)
        | refine rl_step (by decide) (op_pick_f rfl rfl ?_)
        | refine rl_step (by decide) (op_lss rfl rfl ?_)
        | refine rl_step (by decide) (op_leq rfl rfl ?_)
        | refine rl_step (by decide) (op_gtr rfl rfl ?_)
        | refine rl_step (by decide) (op_geq rfl rfl ?_)
        | refine rl_step (by decide) (op_eql rfl rfl ?_)
        | refine rl_step (by decide) (op_neq rfl rfl ?_)
        | refine rl_step (by decide) (op_not rfl ?_)
        | refine rl_step (by decide) (op_min rfl rfl ?_)
        | refine rl_step (by decide) (op_max rfl rfl ?_)
        | refine rl_step (by decide) (op_extract rfl rfl ?_)
        | refine rl_step (by decide) (op_add rfl rfl (by omega) ?_)
        | refine rl_step (by decide) (op_sub rfl rfl (by omega) ?_)
        | refine rl_step (by decide) (op_neg rfl (by omega) ?_)))
    refine rl_step (by decide) (op_fieldBox fdL3 rfl ?_)
    refine rl_step (by decide) (op_load1 tdSI rfl hbox rfl ?_)
    refine rl_step (by decide) (op_len uI rfl hu4 ?_)
    (repeat (first
        | refine run_seq ?_
        | refine run_region_l ?_
        | refine rl_nil ?_
        | refine rl_step (by decide) (op_move rfl ?_)
        | refine rl_step (by decide) (op_assign rfl ?_)
        | refine run_block ?_
        | refine run_inBlock ?_
        | refine run_exit rfl ?_
        | refine run_skip ?_
        | refine run_label ?_
        | refine run_true rfl ?_
        | refine run_false rfl ?_
        | refine rl_yes rfl rfl ?_
        | refine rl_no rfl rfl rfl (by decide) ?_
        | refine rl_step (by decide) (op_pick_t rfl rfl ?_)
        | refine rl_step (by decide) (op_pick_f rfl rfl ?_)
        | refine rl_step (by decide) (op_lss rfl rfl ?_)
        | refine rl_step (by decide) (op_leq rfl rfl ?_)
        | refine rl_step (by decide) (op_gtr rfl rfl ?_)
        | refine rl_step (by decide) (op_geq rfl rfl ?_)
        | refine rl_step (by decide) (op_eql rfl rfl ?_)
        | refine rl_step (by decide) (op_neq rfl rfl ?_)
        | refine rl_step (by decide) (op_not rfl ?_)
        | refine rl_step (by decide) (op_min rfl rfl ?_)
        | refine rl_step (by decide) (op_max rfl rfl ?_)
        | refine rl_step (by decide) (op_extract rfl rfl ?_)
        | refine rl_step (by decide) (op_add rfl rfl (by omega) ?_)
        | refine rl_step (by decide) (op_sub rfl rfl (by omega) ?_)
        | refine rl_step (by decide) (op_neg rfl (by omega) ?_)))
    refine (run_loop (α := Nat × Int) (fun x => [(0, vb), (1, vn), (7, .int .i64 x.2), (20, vb), (21, .int .i64 body.length), (22, .int .i64 k), (27, n), (28, .int .i64 body[k].notes.length), (29, .int .i64 x.1)])
      (fun x w' => x.1 ≤ body[k].notes.length ∧ 0 ≤ x.2 ∧ x.2 ≤ notes.length ∧ w' = w4 ∧ ordM (body[k].notes.drop x.1 ++ refs (body.drop (k + 1))) x.2 notes.length = ordM (refs body) 0 notes.length)
      (fun x => body[k].notes.length - x.1) (0, next) ⟨Nat.zero_le _, hn0, hn1, rfl, hI⟩ ?_).sub (by repeat (first | exact trivial | refine ⟨rfl, ?_⟩))
    clear hI hn0 hn1
    have hle3 := hu4.le
    rintro ⟨j, nx⟩ w5 ⟨hj, hn0, hn1, rfl, hI⟩ ih2
    simp only at hj hn0 hn1 hI ih2
    (repeat (first
        | refine run_seq ?_
        | refine run_region_l ?_
        | refine rl_nil ?_
        | refine rl_step (by decide) (op_move rfl ?_)
        | refine rl_step (by decide) (op_assign rfl ?_)
        | refine run_block ?_
        | refine run_inBlock ?_
        | refine run_exit rfl ?_
        | refine run_skip ?_
        | refine run_label ?_
        | refine run_true rfl ?_
        | refine run_false rfl ?_
        | refine rl_yes rfl rfl ?_
        | refine rl_no rfl rfl rfl (by decide) ?_
        | refine rl_step (by decide) (op_pick_t rfl rfl ?_)
        | refine rl_step (by decide) (op_pick_f rfl rfl ?_)
        | refine rl_step (by decide) (op_lss rfl rfl ?_)
        | refine rl_step (by decide) (op_leq rfl rfl ?_)
        | refine rl_step (by decide) (op_gtr rfl rfl ?_)
        | refine rl_step (by decide) (op_geq rfl rfl ?_)
        | refine rl_step (by decide) (op_eql rfl rfl ?_)
        | refine rl_step (by decide) (op_neq rfl rfl ?_)
        | refine rl_step (by decide) (op_not rfl ?_)
        | refine rl_step (by decide) (op_min rfl rfl ?_)
        | refine rl_step (by decide) (op_max rfl rfl ?_)
        | refine rl_step (by decide) (op_extract rfl rfl ?_)
        | refine rl_step (by decide) (op_add rfl rfl (by omega) ?_)
        | refine rl_step (by decide) (op_sub rfl rfl (by omega) ?_)
        | refine rl_step (by decide) (op_neg rfl (by omega) ?_)))
    refine run_if rfl (fun hlt2 => ?_) (fun hlt2 => ?_)
    · have hj' : j < body[k].notes.length := by omega
      rw [ordM_drop _ j hj'] at hI
      (repeat (first
          | refine run_seq ?_
          | refine run_region_l ?_
          | refine rl_nil ?_
          | refine rl_step (by decide) (op_move rfl ?_)
          | refine rl_step (by decide) (op_assign rfl ?_)
          | refine run_block ?_
          | refine run_inBlock ?_
          | refine run_exit rfl ?_
          | refine run_skip ?_
          | refine run_label ?_
          | refine run_true rfl ?_
          | refine run_false rfl ?_
          | refine rl_yes rfl rfl ?_
          | refine rl_no rfl rfl rfl (by decide) ?_
          | refine rl_step (by decide) (op_pick_t rfl rfl ?_)
          | refine rl_step (by decide) (op_pick_f rfl rfl ?_)
          | refine rl_step (by decide) (op_lss rfl rfl ?_)
          | refine rl_step (by decide) (op_leq rfl rfl ?_)
          | refine rl_step (by decide) (op_gtr rfl rfl ?_)
          | refine rl_step (by decide) (op_geq rfl rfl ?_)
          | refine rl_step (by decide) (op_eql rfl rfl ?_)
          | refine rl_step (by decide) (op_neq rfl rfl ?_)
          | refine rl_step (by decide) (op_not rfl ?_)
          | refine rl_step (by decide) (op_min rfl rfl ?_)
          | refine rl_step (by decide) (op_max rfl rfl ?_)
          | refine rl_step (by decide) (op_extract rfl rfl ?_)
          | refine rl_step (by decide) (op_add rfl rfl (by omega) ?_)
          | refine rl_step (by decide) (op_sub rfl rfl (by omega) ?_)
          | refine rl_step (by decide) (op_neg rfl (by omega) ?_)))
      refine rl_step (by decide) (op_indexAddr uI teI rfl rfl hu4 (by omega) ?_)
      intro ad2 hn2 he2
      refine rl_step (by decide) (op_load teI rfl he2 ?_)
      intro u hu
      rw [eI_V] at hu
      obtain ⟨rfl, hu5⟩ := hu
      simp only [Int.toNat_natCast]
      (repeat (first
          | refine run_seq ?_
          | refine run_region_l ?_
          | refine rl_nil ?_
          | refine rl_step (by decide) (op_move rfl ?_)
          | refine rl_step (by decide) (op_assign rfl ?_)
          | refine run_block ?_
          | refine run_inBlock ?_
          | refine run_exit rfl ?_
          | refine run_skip ?_
          | refine run_label ?_
          | refine run_true rfl ?_
          | refine run_false rfl ?_
          | refine rl_yes rfl rfl ?_
          | refine rl_no rfl rfl rfl (by decide) ?_
          | refine rl_step (by decide) (op_pick_t rfl rfl ?_)
          | refine rl_step (by decide) (op_pick_f rfl rfl ?_)
          | refine rl_step (by decide) (op_lss rfl rfl ?_)
          | refine rl_step (by decide) (op_leq rfl rfl ?_)
          | refine rl_step (by decide) (op_gtr rfl rfl ?_)
          | refine rl_step (by decide) (op_geq rfl rfl ?_)
          | refine rl_step (by decide) (op_eql rfl rfl ?_)
          | refine rl_step (by decide) (op_neq rfl rfl ?_)
          | refine rl_step (by decide) (op_not rfl ?_)
          | refine rl_step (by decide) (op_min rfl rfl ?_)
          | refine rl_step (by decide) (op_max rfl rfl ?_)
          | refine rl_step (by decide) (op_extract rfl rfl ?_)
          | refine rl_step (by decide) (op_add rfl rfl (by omega) ?_)
          | refine rl_step (by decide) (op_sub rfl rfl (by omega) ?_)
          | refine rl_step (by decide) (op_neg rfl (by omega) ?_)))
      refine rl_part 36 rfl (fun h5 => ?_) (fun h5 => ?_)
      · (repeat (first
            | refine run_seq ?_
            | refine run_region_l ?_
            | refine rl_nil ?_
            | refine rl_step (by decide) (op_move rfl ?_)
            | refine rl_step (by decide) (op_assign rfl ?_)
            | refine run_block ?_
            | refine run_inBlock ?_
            | refine run_exit rfl ?_
            | refine run_skip ?_
            | refine run_label ?_
            | refine run_true rfl ?_
            | refine run_false rfl ?_
            | refine rl_yes rfl rfl ?_
            | refine rl_no rfl rfl rfl (by decide) ?_
            | refine rl_step (by decide) (op_pick_t rfl rfl ?_)
            | refine rl_step (by decide) (op_pick_f rfl rfl ?_)
            | refine rl_step (by decide) (op_lss rfl rfl ?_)
            | refine rl_step (by decide) (op_leq rfl rfl ?_)
            | refine rl_step (by decide) (op_gtr rfl rfl ?_)
            | refine rl_step (by decide) (op_geq rfl rfl ?_)
            | refine rl_step (by decide) (op_eql rfl rfl ?_)
            | refine rl_step (by decide) (op_neq rfl rfl ?_)
            | refine rl_step (by decide) (op_not rfl ?_)
            | refine rl_step (by decide) (op_min rfl rfl ?_)
            | refine rl_step (by decide) (op_max rfl rfl ?_)
            | refine rl_step (by decide) (op_extract rfl rfl ?_)
            | refine rl_step (by decide) (op_add rfl rfl (by omega) ?_)
            | refine rl_step (by decide) (op_sub rfl rfl (by omega) ?_)
            | refine rl_step (by decide) (op_neg rfl (by omega) ?_)))
        refine run_ret1 Try.func43 rfl rfl ?_
        rw [if_pos (Or.inl h5)] at hI
        rw [← hI]
        exact ⟨rfl, hr.bel⟩
      · (repeat (first
            | refine run_seq ?_
            | refine run_region_l ?_
            | refine rl_nil ?_
            | refine rl_step (by decide) (op_move rfl ?_)
            | refine rl_step (by decide) (op_assign rfl ?_)
            | refine run_block ?_
            | refine run_inBlock ?_
            | refine run_exit rfl ?_
            | refine run_skip ?_
            | refine run_label ?_
            | refine run_true rfl ?_
            | refine run_false rfl ?_
            | refine rl_yes rfl rfl ?_
            | refine rl_no rfl rfl rfl (by decide) ?_
            | refine rl_step (by decide) (op_pick_t rfl rfl ?_)
            | refine rl_step (by decide) (op_pick_f rfl rfl ?_)
            | refine rl_step (by decide) (op_lss rfl rfl ?_)
            | refine rl_step (by decide) (op_leq rfl rfl ?_)
            | refine rl_step (by decide) (op_gtr rfl rfl ?_)
            | refine rl_step (by decide) (op_geq rfl rfl ?_)
            | refine rl_step (by decide) (op_eql rfl rfl ?_)
            | refine rl_step (by decide) (op_neq rfl rfl ?_)
            | refine rl_step (by decide) (op_not rfl ?_)
            | refine rl_step (by decide) (op_min rfl rfl ?_)
            | refine rl_step (by decide) (op_max rfl rfl ?_)
            | refine rl_step (by decide) (op_extract rfl rfl ?_)
            | refine rl_step (by decide) (op_add rfl rfl (by omega) ?_)
            | refine rl_step (by decide) (op_sub rfl rfl (by omega) ?_)
            | refine rl_step (by decide) (op_neg rfl (by omega) ?_)))
        refine rl_step (by decide) (op_len uLL rfl hn ?_)
        (repeat (first
            | refine run_seq ?_
            | refine run_region_l ?_
            | refine rl_nil ?_
            | refine rl_step (by decide) (op_move rfl ?_)
            | refine rl_step (by decide) (op_assign rfl ?_)
            | refine run_block ?_
            | refine run_inBlock ?_
            | refine run_exit rfl ?_
            | refine run_skip ?_
            | refine run_label ?_
            | refine run_true rfl ?_
            | refine run_false rfl ?_
            | refine rl_yes rfl rfl ?_
            | refine rl_no rfl rfl rfl (by decide) ?_
            | refine rl_step (by decide) (op_pick_t rfl rfl ?_)
            | refine rl_step (by decide) (op_pick_f rfl rfl ?_)
            | refine rl_step (by decide) (op_lss rfl rfl ?_)
            | refine rl_step (by decide) (op_leq rfl rfl ?_)
            | refine rl_step (by decide) (op_gtr rfl rfl ?_)
            | refine rl_step (by decide) (op_geq rfl rfl ?_)
            | refine rl_step (by decide) (op_eql rfl rfl ?_)
            | refine rl_step (by decide) (op_neq rfl rfl ?_)
            | refine rl_step (by decide) (op_not rfl ?_)
            | refine rl_step (by decide) (op_min rfl rfl ?_)
            | refine rl_step (by decide) (op_max rfl rfl ?_)
            | refine rl_step (by decide) (op_extract rfl rfl ?_)
            | refine rl_step (by decide) (op_add rfl rfl (by omega) ?_)
            | refine rl_step (by decide) (op_sub rfl rfl (by omega) ?_)
            | refine rl_step (by decide) (op_neg rfl (by omega) ?_)))
        refine run_if rfl (fun h6 => ?_) (fun h6 => ?_)
        · (repeat (first
              | refine run_seq ?_
              | refine run_region_l ?_
              | refine rl_nil ?_
              | refine rl_step (by decide) (op_move rfl ?_)
              | refine rl_step (by decide) (op_assign rfl ?_)
              | refine run_block ?_
              | refine run_inBlock ?_
              | refine run_exit rfl ?_
              | refine run_skip ?_
              | refine run_label ?_
              | refine run_true rfl ?_
              | refine run_false rfl ?_
              | refine rl_yes rfl rfl ?_
              | refine rl_no rfl rfl rfl (by decide) ?_
              | refine rl_step (by decide) (op_pick_t rfl rfl ?_)
              | refine rl_step (by decide) (op_pick_f rfl rfl ?_)
              | refine rl_step (by decide) (op_lss rfl rfl ?_)
              | refine rl_step (by decide) (op_leq rfl rfl ?_)
              | refine rl_step (by decide) (op_gtr rfl rfl ?_)
              | refine rl_step (by decide) (op_geq rfl rfl ?_)
              | refine rl_step (by decide) (op_eql rfl rfl ?_)
              | refine rl_step (by decide) (op_neq rfl rfl ?_)
              | refine rl_step (by decide) (op_not rfl ?_)
              | refine rl_step (by decide) (op_min rfl rfl ?_)
              | refine rl_step (by decide) (op_max rfl rfl ?_)
              | refine rl_step (by decide) (op_extract rfl rfl ?_)
              | refine rl_step (by decide) (op_add rfl rfl (by omega) ?_)
              | refine rl_step (by decide) (op_sub rfl rfl (by omega) ?_)
              | refine rl_step (by decide) (op_neg rfl (by omega) ?_)))
          refine run_ret1 Try.func43 rfl rfl ?_
          rw [if_pos (Or.inr h6)] at hI
          rw [← hI]
          exact ⟨rfl, hr.bel⟩
        · rw [if_neg (by intro h; rcases h with h | h; exact h5 h; exact h6 h)] at hI
          (repeat (first
              | refine run_seq ?_
              | refine run_region_l ?_
              | refine rl_nil ?_
              | refine rl_step (by decide) (op_move rfl ?_)
              | refine rl_step (by decide) (op_assign rfl ?_)
              | refine run_block ?_
              | refine run_inBlock ?_
              | refine run_exit rfl ?_
              | refine run_skip ?_
              | refine run_label ?_
              | refine run_true rfl ?_
              | refine run_false rfl ?_
              | refine rl_yes rfl rfl ?_
              | refine rl_no rfl rfl rfl (by decide) ?_
              | refine rl_step (by decide) (op_pick_t rfl rfl ?_)
              | refine rl_step (by decide) (op_pick_f rfl rfl ?_)
              | refine rl_step (by decide) (op_lss rfl rfl ?_)
              | refine rl_step (by decide) (op_leq rfl rfl ?_)
              | refine rl_step (by decide) (op_gtr rfl rfl ?_)
              | refine rl_step (by decide) (op_geq rfl rfl ?_)
              | refine rl_step (by decide) (op_eql rfl rfl ?_)
              | refine rl_step (by decide) (op_neq rfl rfl ?_)
              | refine rl_step (by decide) (op_not rfl ?_)
              | refine rl_step (by decide) (op_min rfl rfl ?_)
              | refine rl_step (by decide) (op_max rfl rfl ?_)
              | refine rl_step (by decide) (op_extract rfl rfl ?_)
              | refine rl_step (by decide) (op_add rfl rfl (by omega) ?_)
              | refine rl_step (by decide) (op_sub rfl rfl (by omega) ?_)
              | refine rl_step (by decide) (op_neg rfl (by omega) ?_)))
          exact (ih2 (j + 1, nx + 1) _ ⟨by show j + 1 ≤ _; omega, by show 0 ≤ nx + 1; omega, by show nx + 1 ≤ _; omega, rfl, hI⟩ (by show _ - (j + 1) < _ - j; omega)).sub (by repeat (first | exact trivial | refine ⟨rfl, ?_⟩))
    · rw [List.drop_eq_nil_of_le (by omega), List.nil_append] at hI
      (repeat (first
          | refine run_seq ?_
          | refine run_region_l ?_
          | refine rl_nil ?_
          | refine rl_step (by decide) (op_move rfl ?_)
          | refine rl_step (by decide) (op_assign rfl ?_)
          | refine run_block ?_
          | refine run_inBlock ?_
          | refine run_exit rfl ?_
          | refine run_skip ?_
          | refine run_label ?_
          | refine run_true rfl ?_
          | refine run_false rfl ?_
          | refine rl_yes rfl rfl ?_
          | refine rl_no rfl rfl rfl (by decide) ?_
          | refine rl_step (by decide) (op_pick_t rfl rfl ?_)
          | refine rl_step (by decide) (op_pick_f rfl rfl ?_)
          | refine rl_step (by decide) (op_lss rfl rfl ?_)
          | refine rl_step (by decide) (op_leq rfl rfl ?_)
          | refine rl_step (by decide) (op_gtr rfl rfl ?_)
          | refine rl_step (by decide) (op_geq rfl rfl ?_)
          | refine rl_step (by decide) (op_eql rfl rfl ?_)
          | refine rl_step (by decide) (op_neq rfl rfl ?_)
          | refine rl_step (by decide) (op_not rfl ?_)
          | refine rl_step (by decide) (op_min rfl rfl ?_)
          | refine rl_step (by decide) (op_max rfl rfl ?_)
          | refine rl_step (by decide) (op_extract rfl rfl ?_)
          | refine rl_step (by decide) (op_add rfl rfl (by omega) ?_)
          | refine rl_step (by decide) (op_sub rfl rfl (by omega) ?_)
          | refine rl_step (by decide) (op_neg rfl (by omega) ?_)))
      exact (ih (k + 1, nx, _) _ ⟨by show k + 1 ≤ _; omega, hn0, hn1, hr, hb, hn, hI⟩ (by show _ - (k + 1) < _ - k; omega)).sub (by repeat (first | exact trivial | refine ⟨rfl, ?_⟩))
  · rw [List.drop_eq_nil_of_le (by omega)] at hI
    simp only [refs, List.flatMap_nil, ordM] at hI
    rw [show ordM (refs body) 0 notes.length = some next from hI.symm]
    (repeat (first
        | refine run_seq ?_
        | refine run_region_l ?_
        | refine rl_nil ?_
        | refine rl_step (by decide) (op_move rfl ?_)
        | refine rl_step (by decide) (op_assign rfl ?_)
        | refine run_block ?_
        | refine run_inBlock ?_
        | refine run_exit rfl ?_
        | refine run_skip ?_
        | refine run_label ?_
        | refine run_true rfl ?_
        | refine run_false rfl ?_
        | refine rl_yes rfl rfl ?_
        | refine rl_no rfl rfl rfl (by decide) ?_
        | refine rl_step (by decide) (op_pick_t rfl rfl ?_)
        | refine rl_step (by decide) (op_pick_f rfl rfl ?_)
        | refine rl_step (by decide) (op_lss rfl rfl ?_)
        | refine rl_step (by decide) (op_leq rfl rfl ?_)
        | refine rl_step (by decide) (op_gtr rfl rfl ?_)
        | refine rl_step (by decide) (op_geq rfl rfl ?_)
        | refine rl_step (by decide) (op_eql rfl rfl ?_)
        | refine rl_step (by decide) (op_neq rfl rfl ?_)
        | refine rl_step (by decide) (op_not rfl ?_)
        | refine rl_step (by decide) (op_min rfl rfl ?_)
        | refine rl_step (by decide) (op_max rfl rfl ?_)
        | refine rl_step (by decide) (op_extract rfl rfl ?_)
        | refine rl_step (by decide) (op_add rfl rfl (by omega) ?_)
        | refine rl_step (by decide) (op_sub rfl rfl (by omega) ?_)
        | refine rl_step (by decide) (op_neg rfl (by omega) ?_)))
    refine rl_step (by decide) (op_len uLL rfl hn ?_)
    (repeat (first
        | refine run_seq ?_
        | refine run_region_l ?_
        | refine rl_nil ?_
        | refine rl_step (by decide) (op_move rfl ?_)
        | refine rl_step (by decide) (op_assign rfl ?_)
        | refine run_block ?_
        | refine run_inBlock ?_
        | refine run_exit rfl ?_
        | refine run_skip ?_
        | refine run_label ?_
        | refine run_true rfl ?_
        | refine run_false rfl ?_
        | refine rl_yes rfl rfl ?_
        | refine rl_no rfl rfl rfl (by decide) ?_
        | refine rl_step (by decide) (op_pick_t rfl rfl ?_)
        | refine rl_step (by decide) (op_pick_f rfl rfl ?_)
        | refine rl_step (by decide) (op_lss rfl rfl ?_)
        | refine rl_step (by decide) (op_leq rfl rfl ?_)
        | refine rl_step (by decide) (op_gtr rfl rfl ?_)
        | refine rl_step (by decide) (op_geq rfl rfl ?_)
        | refine rl_step (by decide) (op_eql rfl rfl ?_)
        | refine rl_step (by decide) (op_neq rfl rfl ?_)
        | refine rl_step (by decide) (op_not rfl ?_)
        | refine rl_step (by decide) (op_min rfl rfl ?_)
        | refine rl_step (by decide) (op_max rfl rfl ?_)
        | refine rl_step (by decide) (op_extract rfl rfl ?_)
        | refine rl_step (by decide) (op_add rfl rfl (by omega) ?_)
        | refine rl_step (by decide) (op_sub rfl rfl (by omega) ?_)
        | refine rl_step (by decide) (op_neg rfl (by omega) ?_)))
    refine run_if rfl (fun h6 => ?_) (fun h6 => ?_)
    · (repeat (first
          | refine run_seq ?_
          | refine run_region_l ?_
          | refine rl_nil ?_
          | refine rl_step (by decide) (op_move rfl ?_)
          | refine rl_step (by decide) (op_assign rfl ?_)
          | refine run_block ?_
          | refine run_inBlock ?_
          | refine run_exit rfl ?_
          | refine run_skip ?_
          | refine run_label ?_
          | refine run_true rfl ?_
          | refine run_false rfl ?_
          | refine rl_yes rfl rfl ?_
          | refine rl_no rfl rfl rfl (by decide) ?_
          | refine rl_step (by decide) (op_pick_t rfl rfl ?_)
          | refine rl_step (by decide) (op_pick_f rfl rfl ?_)
          | refine rl_step (by decide) (op_lss rfl rfl ?_)
          | refine rl_step (by decide) (op_leq rfl rfl ?_)
          | refine rl_step (by decide) (op_gtr rfl rfl ?_)
          | refine rl_step (by decide) (op_geq rfl rfl ?_)
          | refine rl_step (by decide) (op_eql rfl rfl ?_)
          | refine rl_step (by decide) (op_neq rfl rfl ?_)
          | refine rl_step (by decide) (op_not rfl ?_)
          | refine rl_step (by decide) (op_min rfl rfl ?_)
          | refine rl_step (by decide) (op_max rfl rfl ?_)
          | refine rl_step (by decide) (op_extract rfl rfl ?_)
          | refine rl_step (by decide) (op_add rfl rfl (by omega) ?_)
          | refine rl_step (by decide) (op_sub rfl rfl (by omega) ?_)
          | refine rl_step (by decide) (op_neg rfl (by omega) ?_)))
      refine run_ret1 Try.func43 rfl rfl ?_
      exact ⟨by simp only [if_pos h6], hr.bel⟩
    · (repeat (first
          | refine run_seq ?_
          | refine run_region_l ?_
          | refine rl_nil ?_
          | refine rl_step (by decide) (op_move rfl ?_)
          | refine rl_step (by decide) (op_assign rfl ?_)
          | refine run_block ?_
          | refine run_inBlock ?_
          | refine run_exit rfl ?_
          | refine run_skip ?_
          | refine run_label ?_
          | refine run_true rfl ?_
          | refine run_false rfl ?_
          | refine rl_yes rfl rfl ?_
          | refine rl_no rfl rfl rfl (by decide) ?_
          | refine rl_step (by decide) (op_pick_t rfl rfl ?_)
          | refine rl_step (by decide) (op_pick_f rfl rfl ?_)
          | refine rl_step (by decide) (op_lss rfl rfl ?_)
          | refine rl_step (by decide) (op_leq rfl rfl ?_)
          | refine rl_step (by decide) (op_gtr rfl rfl ?_)
          | refine rl_step (by decide) (op_geq rfl rfl ?_)
          | refine rl_step (by decide) (op_eql rfl rfl ?_)
          | refine rl_step (by decide) (op_neq rfl rfl ?_)
          | refine rl_step (by decide) (op_not rfl ?_)
          | refine rl_step (by decide) (op_min rfl rfl ?_)
          | refine rl_step (by decide) (op_max rfl rfl ?_)
          | refine rl_step (by decide) (op_extract rfl rfl ?_)
          | refine rl_step (by decide) (op_add rfl rfl (by omega) ?_)
          | refine rl_step (by decide) (op_sub rfl rfl (by omega) ?_)
          | refine rl_step (by decide) (op_neg rfl (by omega) ?_)))
      refine run_ret1 Try.func43 rfl rfl ?_
      exact ⟨by simp only [if_neg h6], hr.bel⟩

end Go.Proofs.Ytocoinkhbjlbhaa
