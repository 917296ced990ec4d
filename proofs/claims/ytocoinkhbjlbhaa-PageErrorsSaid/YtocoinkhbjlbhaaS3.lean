/-
  Walks: copies of lines.
-/
import Derived.Test.YtocoinkhbjlbhaaS2
namespace Go.Proofs.Ytocoinkhbjlbhaa
open Go Go.RowKit

theorem cloneI_c (M : Mut) (v : Value) (l : List Int) (w : World) (hm : MB M w) (hs : SlOf eI M w v l) :
    CallsV Try.prog 63 [v] w (fun u w' => Below w.heap.size w w' ∧ SlOf eI M w' u l) := by
  have hr := Rn.refl hm
  have hby := hs.bytes
  refine callsV_of_run Try.func63 rfl Try.ntmps63 (Nat.le_of_ble_eq_true rfl) ?_
  (repeat (first
      | refine run_seq ?_
      | refine run_region_l ?_
      | refine rl_nil ?_
      | refine rl_step (by decide) (op_move rfl ?_)
      | refine rl_step (by decide) (op_assign rfl ?_)
      | refine run_block ?_
      | refine run_inBlock ?_
      | refine run_exit rfl ?_
      | refine run_skip ?_
      | refine run_label ?_
      | refine run_true rfl ?_
      | refine run_false rfl ?_
      | refine rl_yes rfl rfl ?_
      | refine rl_no rfl rfl rfl (by decide) ?_
      | refine rl_step (by decide) (op_pick_t rfl rfl ?_)
      | refine rl_step (by decide) (op_pick_f rfl rfl ?_)
      | refine rl_step (by decide) (op_lss rfl rfl ?_)
      | refine rl_step (by decide) (op_leq rfl rfl ?_)
      | refine rl_step (by decide) (op_gtr rfl rfl ?_)
      | refine rl_step (by decide) (op_geq rfl rfl ?_)
      | refine rl_step (by decide) (op_eql rfl rfl ?_)
      | refine rl_step (by decide) (op_neq rfl rfl ?_)
      | refine rl_step (by decide) (op_not rfl ?_)
      | refine rl_step (by decide) (op_min rfl rfl ?_)
      | refine rl_step (by decide) (op_max rfl rfl ?_)
      | refine rl_step (by decide) (op_extract rfl rfl ?_)
      | refine rl_step (by decide) (op_add rfl rfl (by omega) ?_)
      | refine rl_step (by decide) (op_sub rfl rfl (by omega) ?_)
      | refine rl_step (by decide) (op_neg rfl (by omega) ?_)))
  refine rl_step (by decide) (op_eqlNil uI rfl rfl hs ?_)
  intro b hb
  (repeat (first
      | refine run_seq ?_
      | refine run_region_l ?_
      | refine rl_nil ?_
      | refine rl_step (by decide) (op_move rfl ?_)
      | refine rl_step (by decide) (op_assign rfl ?_)
      | refine run_block ?_
      | refine run_inBlock ?_
      | refine run_exit rfl ?_
      | refine run_skip ?_
      | refine run_label ?_
      | refine run_true rfl ?_
      | refine run_false rfl ?_
      | refine rl_yes rfl rfl ?_
      | refine rl_no rfl rfl rfl (by decide) ?_
      | refine rl_step (by decide) (op_pick_t rfl rfl ?_)
      | refine rl_step (by decide) (op_pick_f rfl rfl ?_)
      | refine rl_step (by decide) (op_lss rfl rfl ?_)
      | refine rl_step (by decide) (op_leq rfl rfl ?_)
      | refine rl_step (by decide) (op_gtr rfl rfl ?_)
      | refine rl_step (by decide) (op_geq rfl rfl ?_)
      | refine rl_step (by decide) (op_eql rfl rfl ?_)
      | refine rl_step (by decide) (op_neq rfl rfl ?_)
      | refine rl_step (by decide) (op_not rfl ?_)
      | refine rl_step (by decide) (op_min rfl rfl ?_)
      | refine rl_step (by decide) (op_max rfl rfl ?_)
      | refine rl_step (by decide) (op_extract rfl rfl ?_)
      | refine rl_step (by decide) (op_add rfl rfl (by omega) ?_)
      | refine rl_step (by decide) (op_sub rfl rfl (by omega) ?_)
      | refine rl_step (by decide) (op_neg rfl (by omega) ?_)))
  refine run_ifb rfl (fun h => ?_) (fun h => ?_)
  · (repeat (first
        | refine run_seq ?_
        | refine run_region_l ?_
        | refine rl_nil ?_
        | refine rl_step (by decide) (op_move rfl ?_)
        | refine rl_step (by decide) (op_assign rfl ?_)
        | refine run_block ?_
        | refine run_inBlock ?_
        | refine run_exit rfl ?_
        | refine run_skip ?_
        | refine run_label ?_
        | refine run_true rfl ?_
        | refine run_false rfl ?_
        | refine rl_yes rfl rfl ?_
        | refine rl_no rfl rfl rfl (by decide) ?_
        | refine rl_step (by decide) (op_pick_t rfl rfl ?_)
        | refine rl_step (by decide) (op_pick_f rfl rfl ?_)
        | refine rl_step (by decide) (op_lss rfl rfl ?_)
        | refine rl_step (by decide) (op_leq rfl rfl ?_)
        | refine rl_step (by decide) (op_gtr rfl rfl ?_)
        | refine rl_step (by decide) (op_geq rfl rfl ?_)
        | refine rl_step (by decide) (op_eql rfl rfl ?_)
        | refine rl_step (by decide) (op_neq rfl rfl ?_)
        | refine rl_step (by decide) (op_not rfl ?_)
        | refine rl_step (by decide) (op_min rfl rfl ?_)
        | refine rl_step (by decide) (op_max rfl rfl ?_)
        | refine rl_step (by decide) (op_extract rfl rfl ?_)
        | refine rl_step (by decide) (op_add rfl rfl (by omega) ?_)
        | refine rl_step (by decide) (op_sub rfl rfl (by omega) ?_)
        | refine rl_step (by decide) (op_neg rfl (by omega) ?_)))
    refine run_ret1 Try.func63 rfl rfl ?_
    rw [hb h]
    exact ⟨Below.refl _ _, SlOf.nil _ _ _⟩
  · (repeat (first
        | refine run_seq ?_
        | refine run_region_l ?_
        | refine rl_nil ?_
        | refine rl_step (by decide) (op_move rfl ?_)
        | refine rl_step (by decide) (op_assign rfl ?_)
        | refine run_block ?_
        | refine run_inBlock ?_
        | refine run_exit rfl ?_
        | refine run_skip ?_
        | refine run_label ?_
        | refine run_true rfl ?_
        | refine run_false rfl ?_
        | refine rl_yes rfl rfl ?_
        | refine rl_no rfl rfl rfl (by decide) ?_
        | refine rl_step (by decide) (op_pick_t rfl rfl ?_)
        | refine rl_step (by decide) (op_pick_f rfl rfl ?_)
        | refine rl_step (by decide) (op_lss rfl rfl ?_)
        | refine rl_step (by decide) (op_leq rfl rfl ?_)
        | refine rl_step (by decide) (op_gtr rfl rfl ?_)
        | refine rl_step (by decide) (op_geq rfl rfl ?_)
        | refine rl_step (by decide) (op_eql rfl rfl ?_)
        | refine rl_step (by decide) (op_neq rfl rfl ?_)
        | refine rl_step (by decide) (op_not rfl ?_)
        | refine rl_step (by decide) (op_min rfl rfl ?_)
        | refine rl_step (by decide) (op_max rfl rfl ?_)
        | refine rl_step (by decide) (op_extract rfl rfl ?_)
        | refine rl_step (by decide) (op_add rfl rfl (by omega) ?_)
        | refine rl_step (by decide) (op_sub rfl rfl (by omega) ?_)
        | refine rl_step (by decide) (op_neg rfl (by omega) ?_)))
    refine rl_step (by decide) (op_buildSlice (E := eI) (n := 0) (parts := []) (vs := []) (l := []) uI teI hr rfl rfl trivial rfl ⟨by decide, by decide⟩ ?_)
    intro u w1 hu1 hu2 hb1
    have hst := hr.step hb1
    replace hs := hs.mono hst.x
    replace hr := hr.st hst
    (repeat (first
        | refine run_seq ?_
        | refine run_region_l ?_
        | refine rl_nil ?_
        | refine rl_step (by decide) (op_move rfl ?_)
        | refine rl_step (by decide) (op_assign rfl ?_)
        | refine run_block ?_
        | refine run_inBlock ?_
        | refine run_exit rfl ?_
        | refine run_skip ?_
        | refine run_label ?_
        | refine run_true rfl ?_
        | refine run_false rfl ?_
        | refine rl_yes rfl rfl ?_
        | refine rl_no rfl rfl rfl (by decide) ?_
        | refine rl_step (by decide) (op_pick_t rfl rfl ?_)
        | refine rl_step (by decide) (op_pick_f rfl rfl ?_)
        | refine rl_step (by decide) (op_lss rfl rfl ?_)
        | refine rl_step (by decide) (op_leq rfl rfl ?_)
        | refine rl_step (by decide) (op_gtr rfl rfl ?_)
        | refine rl_step (by decide) (op_geq rfl rfl ?_)
        | refine rl_step (by decide) (op_eql rfl rfl ?_)
        | refine rl_step (by decide) (op_neq rfl rfl ?_)
        | refine rl_step (by decide) (op_not rfl ?_)
        | refine rl_step (by decide) (op_min rfl rfl ?_)
        | refine rl_step (by decide) (op_max rfl rfl ?_)
        | refine rl_step (by decide) (op_extract rfl rfl ?_)
        | refine rl_step (by decide) (op_add rfl rfl (by omega) ?_)
        | refine rl_step (by decide) (op_sub rfl rfl (by omega) ?_)
        | refine rl_step (by decide) (op_neg rfl (by omega) ?_)))
    have hg : Grow w.heap.size M w1 u 0 1 1 3 := ⟨.inl hu2⟩
    refine rl_step (by decide) (op_append (E := eI) (tag := 1) uI teI rfl rfl hr hu1 hg hs (by simpa using hby) ?_)
    intro u' w2 M2 hu' hg' hst2
    replace hr := hr.st hst2
    (repeat (first
        | refine run_seq ?_
        | refine run_region_l ?_
        | refine rl_nil ?_
        | refine rl_step (by decide) (op_move rfl ?_)
        | refine rl_step (by decide) (op_assign rfl ?_)
        | refine run_block ?_
        | refine run_inBlock ?_
        | refine run_exit rfl ?_
        | refine run_skip ?_
        | refine run_label ?_
        | refine run_true rfl ?_
        | refine run_false rfl ?_
        | refine rl_yes rfl rfl ?_
        | refine rl_no rfl rfl rfl (by decide) ?_
        | refine rl_step (by decide) (op_pick_t rfl rfl ?_)
        | refine rl_step (by decide) (op_pick_f rfl rfl ?_)
        | refine rl_step (by decide) (op_lss rfl rfl ?_)
        | refine rl_step (by decide) (op_leq rfl rfl ?_)
        | refine rl_step (by decide) (op_gtr rfl rfl ?_)
        | refine rl_step (by decide) (op_geq rfl rfl ?_)
        | refine rl_step (by decide) (op_eql rfl rfl ?_)
        | refine rl_step (by decide) (op_neq rfl rfl ?_)
        | refine rl_step (by decide) (op_not rfl ?_)
        | refine rl_step (by decide) (op_min rfl rfl ?_)
        | refine rl_step (by decide) (op_max rfl rfl ?_)
        | refine rl_step (by decide) (op_extract rfl rfl ?_)
        | refine rl_step (by decide) (op_add rfl rfl (by omega) ?_)
        | refine rl_step (by decide) (op_sub rfl rfl (by omega) ?_)
        | refine rl_step (by decide) (op_neg rfl (by omega) ?_)))
    refine run_ret1 Try.func63 rfl rfl ?_
    exact ⟨hr.bel, hu'.mono hr.fin⟩

theorem clone_c (M : Mut) (v : Value) (l : List Line) (w : World) (hm : MB M w) (hs : SlOf eLine M w v l) :
    CallsV Try.prog 46 [v] w (fun u w' => Below w.heap.size w w' ∧ SlOf eLine M w' u l) := by
  have hr := Rn.refl hm
  have hby := hs.bytes
  have hle := hs.le
  refine callsV_of_run Try.func46 rfl Try.ntmps46 (Nat.le_of_ble_eq_true rfl) ?_
  (repeat (first
      | refine run_seq ?_
      | refine run_region_l ?_
      | refine rl_nil ?_
      | refine rl_step (by decide) (op_move rfl ?_)
      | refine rl_step (by decide) (op_assign rfl ?_)
      | refine run_block ?_
      | refine run_inBlock ?_
      | refine run_exit rfl ?_
      | refine run_skip ?_
      | refine run_label ?_
      | refine run_true rfl ?_
      | refine run_false rfl ?_
      | refine rl_yes rfl rfl ?_
      | refine rl_no rfl rfl rfl (by decide) ?_
      | refine rl_step (by decide) (op_pick_t rfl rfl ?_)
      | refine rl_step (by decide) (op_pick_f rfl rfl ?_)
      | refine rl_step (by decide) (op_lss rfl rfl ?_)
      | refine rl_step (by decide) (op_leq rfl rfl ?_)
      | refine rl_step (by decide) (op_gtr rfl rfl ?_)
      | refine rl_step (by decide) (op_geq rfl rfl ?_)
      | refine rl_step (by decide) (op_eql rfl rfl ?_)
      | refine rl_step (by decide) (op_neq rfl rfl ?_)
      | refine rl_step (by decide) (op_not rfl ?_)
      | refine rl_step (by decide) (op_min rfl rfl ?_)
      | refine rl_step (by decide) (op_max rfl rfl ?_)
      | refine rl_step (by decide) (op_extract rfl rfl ?_)
      | refine rl_step (by decide) (op_add rfl rfl (by omega) ?_)
      | refine rl_step (by decide) (op_sub rfl rfl (by omega) ?_)
      | refine rl_step (by decide) (op_neg rfl (by omega) ?_)))
  refine rl_step (by decide) (op_len uL rfl hs ?_)
  (repeat (first
      | refine run_seq ?_
      | refine run_region_l ?_
      | refine rl_nil ?_
      | refine rl_step (by decide) (op_move rfl ?_)
      | refine rl_step (by decide) (op_assign rfl ?_)
      | refine run_block ?_
      | refine run_inBlock ?_
      | refine run_exit rfl ?_
      | refine run_skip ?_
      | refine run_label ?_
      | refine run_true rfl ?_
      | refine run_false rfl ?_
      | refine rl_yes rfl rfl ?_
      | refine rl_no rfl rfl rfl (by decide) ?_
      | refine rl_step (by decide) (op_pick_t rfl rfl ?_)
      | refine rl_step (by decide) (op_pick_f rfl rfl ?_)
      | refine rl_step (by decide) (op_lss rfl rfl ?_)
      | refine rl_step (by decide) (op_leq rfl rfl ?_)
      | refine rl_step (by decide) (op_gtr rfl rfl ?_)
      | refine rl_step (by decide) (op_geq rfl rfl ?_)
      | refine rl_step (by decide) (op_eql rfl rfl ?_)
      | refine rl_step (by decide) (op_neq rfl rfl ?_)
      | refine rl_step (by decide) (op_not rfl ?_)
      | refine rl_step (by decide) (op_min rfl rfl ?_)
      | refine rl_step (by decide) (op_max rfl rfl ?_)
      | refine rl_step (by decide) (op_extract rfl rfl ?_)
      | refine rl_step (by decide) (op_add rfl rfl (by omega) ?_)
      | refine rl_step (by decide) (op_sub rfl rfl (by omega) ?_)
      | refine rl_step (by decide) (op_neg rfl (by omega) ?_)))
  refine run_if rfl (fun h => ?_) (fun h => ?_)
  · (repeat (first
        | refine run_seq ?_
        | refine run_region_l ?_
        | refine rl_nil ?_
        | refine rl_step (by decide) (op_move rfl ?_)
        | refine rl_step (by decide) (op_assign rfl ?_)
        | refine run_block ?_
        | refine run_inBlock ?_
        | refine run_exit rfl ?_
        | refine run_skip ?_
        | refine run_label ?_
        | refine run_true rfl ?_
        | refine run_false rfl ?_
        | refine rl_yes rfl rfl ?_
        | refine rl_no rfl rfl rfl (by decide) ?_
        | refine rl_step (by decide) (op_pick_t rfl rfl ?_)
        | refine rl_step (by decide) (op_pick_f rfl rfl ?_)
        | refine rl_step (by decide) (op_lss rfl rfl ?_)
        | refine rl_step (by decide) (op_leq rfl rfl ?_)
        | refine rl_step (by decide) (op_gtr rfl rfl ?_)
        | refine rl_step (by decide) (op_geq rfl rfl ?_)
        | refine rl_step (by decide) (op_eql rfl rfl ?_)
        | refine rl_step (by decide) (op_neq rfl rfl ?_)
        | refine rl_step (by decide) (op_not rfl ?_)
        | refine rl_step (by decide) (op_min rfl rfl ?_)
        | refine rl_step (by decide) (op_max rfl rfl ?_)
        | refine rl_step (by decide) (op_extract rfl rfl ?_)
        | refine rl_step (by decide) (op_add rfl rfl (by omega) ?_)
        | refine rl_step (by decide) (op_sub rfl rfl (by omega) ?_)
        | refine rl_step (by decide) (op_neg rfl (by omega) ?_)))
    refine run_ret1 Try.func46 rfl rfl ?_
    rw [List.eq_nil_of_length_eq_zero (l := l) (by omega)]
    exact ⟨Below.refl _ _, SlOf.nil _ _ _⟩
  · (repeat (first
        | refine run_seq ?_
        | refine run_region_l ?_
        | refine rl_nil ?_
        | refine rl_step (by decide) (op_move rfl ?_)
        | refine rl_step (by decide) (op_assign rfl ?_)
        | refine run_block ?_
        | refine run_inBlock ?_
        | refine run_exit rfl ?_
        | refine run_skip ?_
        | refine run_label ?_
        | refine run_true rfl ?_
        | refine run_false rfl ?_
        | refine rl_yes rfl rfl ?_
        | refine rl_no rfl rfl rfl (by decide) ?_
        | refine rl_step (by decide) (op_pick_t rfl rfl ?_)
        | refine rl_step (by decide) (op_pick_f rfl rfl ?_)
        | refine rl_step (by decide) (op_lss rfl rfl ?_)
        | refine rl_step (by decide) (op_leq rfl rfl ?_)
        | refine rl_step (by decide) (op_gtr rfl rfl ?_)
        | refine rl_step (by decide) (op_geq rfl rfl ?_)
        | refine rl_step (by decide) (op_eql rfl rfl ?_)
        | refine rl_step (by decide) (op_neq rfl rfl ?_)
        | refine rl_step (by decide) (op_not rfl ?_)
        | refine rl_step (by decide) (op_min rfl rfl ?_)
        | refine rl_step (by decide) (op_max rfl rfl ?_)
        | refine rl_step (by decide) (op_extract rfl rfl ?_)
        | refine rl_step (by decide) (op_add rfl rfl (by omega) ?_)
        | refine rl_step (by decide) (op_sub rfl rfl (by omega) ?_)
        | refine rl_step (by decide) (op_neg rfl (by omega) ?_)))
    refine rl_step (by decide) (op_len uL rfl hs ?_)
    refine rl_step (by decide) (op_make 3 uL tdL rfl rfl hr (by omega) (by rw [Nat.mul_comm]; exact hby) (by omega) ?_)
    intro b w1 M1 hB hbox hs1
    replace hs := hs.mono hs1.x
    replace hr := hr.up hs1
    simp only [Int.toNat_natCast] at hbox ⊢
    (repeat (first
        | refine run_seq ?_
        | refine run_region_l ?_
        | refine rl_nil ?_
        | refine rl_step (by decide) (op_move rfl ?_)
        | refine rl_step (by decide) (op_assign rfl ?_)
        | refine run_block ?_
        | refine run_inBlock ?_
        | refine run_exit rfl ?_
        | refine run_skip ?_
        | refine run_label ?_
        | refine run_true rfl ?_
        | refine run_false rfl ?_
        | refine rl_yes rfl rfl ?_
        | refine rl_no rfl rfl rfl (by decide) ?_
        | refine rl_step (by decide) (op_pick_t rfl rfl ?_)
        | refine rl_step (by decide) (op_pick_f rfl rfl ?_)
        | refine rl_step (by decide) (op_lss rfl rfl ?_)
        | refine rl_step (by decide) (op_leq rfl rfl ?_)
        | refine rl_step (by decide) (op_gtr rfl rfl ?_)
        | refine rl_step (by decide) (op_geq rfl rfl ?_)
        | refine rl_step (by decide) (op_eql rfl rfl ?_)
        | refine rl_step (by decide) (op_neq rfl rfl ?_)
        | refine rl_step (by decide) (op_not rfl ?_)
        | refine rl_step (by decide) (op_min rfl rfl ?_)
        | refine rl_step (by decide) (op_max rfl rfl ?_)
        | refine rl_step (by decide) (op_extract rfl rfl ?_)
        | refine rl_step (by decide) (op_add rfl rfl (by omega) ?_)
        | refine rl_step (by decide) (op_sub rfl rfl (by omega) ?_)
        | refine rl_step (by decide) (op_neg rfl (by omega) ?_)))
    refine rl_step (by decide) (op_copy (E := eLine) uL teL rfl rfl hr hB hs hbox (by simp [madeCells]; rfl) ?_)
    intro w2 css hcss hbox hst
    replace hs := hs.mono hst.x
    replace hr := hr.st hst
    (repeat (first
        | refine run_seq ?_
        | refine run_region_l ?_
        | refine rl_nil ?_
        | refine rl_step (by decide) (op_move rfl ?_)
        | refine rl_step (by decide) (op_assign rfl ?_)
        | refine run_block ?_
        | refine run_inBlock ?_
        | refine run_exit rfl ?_
        | refine run_skip ?_
        | refine run_label ?_
        | refine run_true rfl ?_
        | refine run_false rfl ?_
        | refine rl_yes rfl rfl ?_
        | refine rl_no rfl rfl rfl (by decide) ?_
        | refine rl_step (by decide) (op_pick_t rfl rfl ?_)
        | refine rl_step (by decide) (op_pick_f rfl rfl ?_)
        | refine rl_step (by decide) (op_lss rfl rfl ?_)
        | refine rl_step (by decide) (op_leq rfl rfl ?_)
        | refine rl_step (by decide) (op_gtr rfl rfl ?_)
        | refine rl_step (by decide) (op_geq rfl rfl ?_)
        | refine rl_step (by decide) (op_eql rfl rfl ?_)
        | refine rl_step (by decide) (op_neq rfl rfl ?_)
        | refine rl_step (by decide) (op_not rfl ?_)
        | refine rl_step (by decide) (op_min rfl rfl ?_)
        | refine rl_step (by decide) (op_max rfl rfl ?_)
        | refine rl_step (by decide) (op_extract rfl rfl ?_)
        | refine rl_step (by decide) (op_add rfl rfl (by omega) ?_)
        | refine rl_step (by decide) (op_sub rfl rfl (by omega) ?_)
        | refine rl_step (by decide) (op_neg rfl (by omega) ?_)))
    refine rl_step (by decide) (op_lenv uL rfl ?_)
    (repeat (first
        | refine run_seq ?_
        | refine run_region_l ?_
        | refine rl_nil ?_
        | refine rl_step (by decide) (op_move rfl ?_)
        | refine rl_step (by decide) (op_assign rfl ?_)
        | refine run_block ?_
        | refine run_inBlock ?_
        | refine run_exit rfl ?_
        | refine run_skip ?_
        | refine run_label ?_
        | refine run_true rfl ?_
        | refine run_false rfl ?_
        | refine rl_yes rfl rfl ?_
        | refine rl_no rfl rfl rfl (by decide) ?_
        | refine rl_step (by decide) (op_pick_t rfl rfl ?_)
        | refine rl_step (by decide) (op_pick_f rfl rfl ?_)
        | refine rl_step (by decide) (op_lss rfl rfl ?_)
        | refine rl_step (by decide) (op_leq rfl rfl ?_)
        | refine rl_step (by decide) (op_gtr rfl rfl ?_)
        | refine rl_step (by decide) (op_geq rfl rfl ?_)
        | refine rl_step (by decide) (op_eql rfl rfl ?_)
        | refine rl_step (by decide) (op_neq rfl rfl ?_)
        | refine rl_step (by decide) (op_not rfl ?_)
        | refine rl_step (by decide) (op_min rfl rfl ?_)
        | refine rl_step (by decide) (op_max rfl rfl ?_)
        | refine rl_step (by decide) (op_extract rfl rfl ?_)
        | refine rl_step (by decide) (op_add rfl rfl (by omega) ?_)
        | refine rl_step (by decide) (op_sub rfl rfl (by omega) ?_)
        | refine rl_step (by decide) (op_neg rfl (by omega) ?_)))
    clear hs1 hst
    refine (run_loop (α := Nat × Mut × List Value) (fun x => [(0, v), (3, .slice (some ⟨b, 0, none⟩) l.length l.length), (15, .int .i64 l.length), (16, .int .i64 x.1)])
      (fun x w' => x.1 ≤ l.length ∧ Rn M w x.2.1 w' ∧ SlOf eLine x.2.1 w' v l ∧ CSS eLine x.2.1 w' x.2.2 l ∧ Box x.2.1 w' b 3 x.2.2 47) (fun x => l.length - x.1) (0, M1, css) ⟨Nat.zero_le _, hr, hs, hcss, hbox⟩ ?_).sub (by repeat (first | exact trivial | refine ⟨rfl, ?_⟩))
    clear hr hs hcss hbox
    rintro ⟨k, M2, css⟩ w3 ⟨hk, hr, hs, hcss, hbox⟩ ih
    simp only at hk hr hs hcss hbox ih
    (repeat (first
        | refine run_seq ?_
        | refine run_region_l ?_
        | refine rl_nil ?_
        | refine rl_step (by decide) (op_move rfl ?_)
        | refine rl_step (by decide) (op_assign rfl ?_)
        | refine run_block ?_
        | refine run_inBlock ?_
        | refine run_exit rfl ?_
        | refine run_skip ?_
        | refine run_label ?_
        | refine run_true rfl ?_
        | refine run_false rfl ?_
        | refine rl_yes rfl rfl ?_
        | refine rl_no rfl rfl rfl (by decide) ?_
        | refine rl_step (by decide) (op_pick_t rfl rfl ?_)
        | refine rl_step (by decide) (op_pick_f rfl rfl ?_)
        | refine rl_step (by decide) (op_lss rfl rfl ?_)
        | refine rl_step (by decide) (op_leq rfl rfl ?_)
        | refine rl_step (by decide) (op_gtr rfl rfl ?_)
        | refine rl_step (by decide) (op_geq rfl rfl ?_)
        | refine rl_step (by decide) (op_eql rfl rfl ?_)
        | refine rl_step (by decide) (op_neq rfl rfl ?_)
        | refine rl_step (by decide) (op_not rfl ?_)
        | refine rl_step (by decide) (op_min rfl rfl ?_)
        | refine rl_step (by decide) (op_max rfl rfl ?_)
        | refine rl_step (by decide) (op_extract rfl rfl ?_)
        | refine rl_step (by decide) (op_add rfl rfl (by omega) ?_)
        | refine rl_step (by decide) (op_sub rfl rfl (by omega) ?_)
        | refine rl_step (by decide) (op_neg rfl (by omega) ?_)))
    refine run_if rfl (fun hlt => ?_) (fun hlt => ?_)
    · have hk' : k < l.length := by omega
      (repeat (first
          | refine run_seq ?_
          | refine run_region_l ?_
          | refine rl_nil ?_
          | refine rl_step (by decide) (op_move rfl ?_)
          | refine rl_step (by decide) (op_assign rfl ?_)
          | refine run_block ?_
          | refine run_inBlock ?_
          | refine run_exit rfl ?_
          | refine run_skip ?_
          | refine run_label ?_
          | refine run_true rfl ?_
          | refine run_false rfl ?_
          | refine rl_yes rfl rfl ?_
          | refine rl_no rfl rfl rfl (by decide) ?_
          | refine rl_step (by decide) (op_pick_t rfl rfl ?_)
          | refine rl_step (by decide) (op_pick_f rfl rfl ?_)
          | refine rl_step (by decide) (op_lss rfl rfl ?_)
          | refine rl_step (by decide) (op_leq rfl rfl ?_)
          | refine rl_step (by decide) (op_gtr rfl rfl ?_)
          | refine rl_step (by decide) (op_geq rfl rfl ?_)
          | refine rl_step (by decide) (op_eql rfl rfl ?_)
          | refine rl_step (by decide) (op_neq rfl rfl ?_)
          | refine rl_step (by decide) (op_not rfl ?_)
          | refine rl_step (by decide) (op_min rfl rfl ?_)
          | refine rl_step (by decide) (op_max rfl rfl ?_)
          | refine rl_step (by decide) (op_extract rfl rfl ?_)
          | refine rl_step (by decide) (op_add rfl rfl (by omega) ?_)
          | refine rl_step (by decide) (op_sub rfl rfl (by omega) ?_)
          | refine rl_step (by decide) (op_neg rfl (by omega) ?_)))
      refine region_dr (M := M2) 16 6 [2, 3] mixed rfl (by kernel_rfl) (fun w1 hs1 => ?_)
      replace hs := hs.mono hs1.x
      replace hcss := hcss.mono hs1.x
      replace hr := hr.up hs1
      replace hbox := hbox.up hs1
      refine dr_cons (isv _) (by decide) (mono_isv _) (ob0 rfl fun M w hs => opg (op_move rfl ⟨_, UpM.refl _ _, rfl⟩)) ?_
      refine dr_cons (isv _) (by decide) (mono_isv _) (ob0 rfl fun M w hs => opg (op_move rfl ⟨_, UpM.refl _ _, rfl⟩)) ?_
      refine dr_cons (isv _) (by decide) (mono_isv _) (ob0 rfl fun M w hs => opg (op_move rfl ⟨_, UpM.refl _ _, rfl⟩)) ?_
      refine dr_cons (isv _) (by decide) (mono_isv _) (ob0 rfl fun M w hs => opg (op_move rfl ⟨_, UpM.refl _ _, rfl⟩)) ?_
      refine dr_cons (isv _) (by decide) (mono_isv _) (ob0 rfl fun M w hs => opg (op_move rfl ⟨_, UpM.refl _ _, rfl⟩)) ?_
      refine dr_cons (isv _) (by decide) (mono_isv _) (ob0 rfl fun M w hs => opg (op_move rfl ⟨_, UpM.refl _ _, rfl⟩)) ?_
      refine dr_cons (isPtr eLine l[k]) (by decide) (mono_isPtr _ _) (ob2 rfl fun M w' hs2 v1 h1 v2 h2 => ?_) ?_
      · cases h1; cases h2
        replace hs := hs.mono hs2.x
        refine opg (op_indexAddr uL teL rfl rfl hs (by omega) ?_)
        intro ad hn he
        exact ⟨_, UpM.refl _ _, ad, rfl, he⟩
      refine dr_cons (isPtr (eSl eI) l[k].gaps) (by decide) (mono_isPtr _ _) (ob1 rfl fun M w' hs2 v1 h1 => ?_) ?_
      · obtain ⟨ad, rfl, he⟩ := h1
        exact opg (op_fieldAddr fdL2 rfl ⟨_, UpM.refl _ _, _, rfl, he.line.2.2.1⟩)
      refine dr_cons (isSl eI l[k].gaps) (by decide) (mono_isSl _ _) (ob1 rfl fun M w' hs2 v1 h1 => ?_) ?_
      · obtain ⟨ad, rfl, he⟩ := h1
        exact opg (op_load teSI rfl he fun u hu => ⟨_, UpM.refl _ _, eSl_V.1 hu⟩)
      refine dr_cons (isSl eI l[k].gaps) (by decide) (mono_isSl _ _) (ob1 rfl fun M w' hs2 v1 h1 => ?_) ?_
      · exact opg (op_call ent63 rfl (cloneI_c M _ _ _ (hs2.mb hr.mb) h1) fun u w2 hu => ⟨_, UpM.of_below hu.1, hu.2⟩)
      refine dr_cons (isv _) (by decide) (mono_isv _) (ob0 rfl fun M w hs => opg (op_move rfl ⟨_, UpM.refl _ _, rfl⟩)) ?_
      refine dr_cons (isv _) (by decide) (mono_isv _) (ob0 rfl fun M w hs => opg (op_move rfl ⟨_, UpM.refl _ _, rfl⟩)) ?_
      refine dr_cons (isPtr eLine l[k]) (by decide) (mono_isPtr _ _) (ob2 rfl fun M w' hs2 v1 h1 v2 h2 => ?_) ?_
      · cases h1; cases h2
        replace hs := hs.mono hs2.x
        refine opg (op_indexAddr uL teL rfl rfl hs (by omega) ?_)
        intro ad hn he
        exact ⟨_, UpM.refl _ _, ad, rfl, he⟩
      refine dr_cons (isPtr (eSl eI) l[k].notes) (by decide) (mono_isPtr _ _) (ob1 rfl fun M w' hs2 v1 h1 => ?_) ?_
      · obtain ⟨ad, rfl, he⟩ := h1
        exact opg (op_fieldAddr fdL3 rfl ⟨_, UpM.refl _ _, _, rfl, he.line.2.2.2⟩)
      refine dr_cons (isSl eI l[k].notes) (by decide) (mono_isSl _ _) (ob1 rfl fun M w' hs2 v1 h1 => ?_) ?_
      · obtain ⟨ad, rfl, he⟩ := h1
        exact opg (op_load teSI rfl he fun u hu => ⟨_, UpM.refl _ _, eSl_V.1 hu⟩)
      refine dr_cons (isSl eI l[k].notes) (by decide) (mono_isSl _ _) (ob1 rfl fun M w' hs2 v1 h1 => ?_) ?_
      · exact opg (op_call ent63 rfl (cloneI_c M _ _ _ (hs2.mb hr.mb) h1) fun u w2 hu => ⟨_, UpM.of_below hu.1, hu.2⟩)
      refine dr_nil rfl (fun M3 w4 val hs2 hall => ?_)
      obtain ⟨h34, _, _, _, _, _, h28, _, _, _, _, _, h22, h21, h20, h19, _⟩ := hall
      have e22 : val 22 = _ := h22; have e21 : val 21 = _ := h21; have e20 : val 20 = _ := h20; have e19 : val 19 = _ := h19
      replace hs := hs.mono hs2.x
      replace hcss := hcss.mono hs2.x
      replace hr := hr.up hs2
      replace hbox := hbox.up hs2
      have hlen := hcss.len
      have hk4 : k * 4 + 4 ≤ css.length := by rw [hlen]; show k * 4 + 4 ≤ l.length * 4; omega
      refine RT.sub (fr' := [(0, v), (3, .slice (some ⟨b, 0, none⟩) l.length l.length), (15, .int .i64 l.length), (16, .int .i64 k), (34, val 34), (28, val 28), (22, val 22), (21, val 21), (20, val 20), (19, val 19)]) ?_ (by repeat (first | exact trivial | refine ⟨rfl, ?_⟩))
      rw [e22, e21, e20, e19]
      generalize val 34 = v34 at h34
      generalize val 28 = v28 at h28
      refine rt_one (i := 16) (by kernel_rfl) rfl (by decide) (op_indexBox uL tdL rfl rfl hbox (by show 0 ≤ (k : Int) ∧ (k : Int) < l.length; omega) ?_)
      refine rt_one (i := 17) (by kernel_rfl) rfl (by decide) (op_fieldBox fdL2 rfl ?_)
      obtain ⟨a28, c28, q28, _⟩ := SlOf.ex h28
      obtain ⟨a34, c34, q34, _⟩ := SlOf.ex h34
      refine rt_one0 (i := 18) (by kernel_rfl) rfl (op_store (c := [v28]) tdSI rfl rfl (by rw [q28]; rfl) (by rw [q28]; simp [Value.oneCell']) rfl hr hB hbox (by simp; omega) ?_)
      simp only [Int.toNat_natCast]
      intro w5 hbox hst
      replace hs := hs.mono hst.x
      replace hcss := hcss.mono hst.x
      replace h28 := h28.mono hst.x
      replace h34 := h34.mono hst.x
      replace hr := hr.st hst
      clear hst
      have hcss := hcss.update k hk' 2 [v28] l[k] (fun cs hR => line_gaps hR h28) (Nat.le_of_ble_eq_true rfl)
      rw [List.set_getElem_self, show k * eLine.sz + 2 = k * 4 + 2 from rfl] at hcss
      generalize splice css (k * 4 + 2) [v28] = css at hcss hbox
      have hlen := hcss.len
      have hk4 : k * 4 + 4 ≤ css.length := by rw [hlen]; show k * 4 + 4 ≤ l.length * 4; omega
      refine rt_one (i := 19) (by kernel_rfl) rfl (by decide) (op_indexBox uL tdL rfl rfl hbox (by show 0 ≤ (k : Int) ∧ (k : Int) < l.length; omega) ?_)
      refine rt_one (i := 20) (by kernel_rfl) rfl (by decide) (op_fieldBox fdL3 rfl ?_)
      refine rt_one0 (i := 21) (by kernel_rfl) rfl (op_store (c := [v34]) tdSI rfl rfl (by rw [q34]; rfl) (by rw [q34]; simp [Value.oneCell']) rfl hr hB hbox (by simp; omega) ?_)
      simp only [Int.toNat_natCast]
      intro w6 hbox hst
      replace hs := hs.mono hst.x
      replace hcss := hcss.mono hst.x
      replace h34 := h34.mono hst.x
      replace hr := hr.st hst
      clear hst
      have hcss := hcss.update k hk' 3 [v34] l[k] (fun cs hR => line_notes hR h34) (Nat.le_of_ble_eq_true rfl)
      rw [List.set_getElem_self, show k * eLine.sz + 3 = k * 4 + 3 from rfl] at hcss
      refine rt_nil (by kernel_rfl) ?_
      (repeat (first
          | refine run_seq ?_
          | refine run_region_l ?_
          | refine rl_nil ?_
          | refine rl_step (by decide) (op_move rfl ?_)
          | refine rl_step (by decide) (op_assign rfl ?_)
          | refine run_block ?_
          | refine run_inBlock ?_
          | refine run_exit rfl ?_
          | refine run_skip ?_
          | refine run_label ?_
          | refine run_true rfl ?_
          | refine run_false rfl ?_
          | refine rl_yes rfl rfl ?_
          | refine rl_no rfl rfl rfl (by decide) ?_
          | refine rl_step (by decide) (op_pick_t rfl rfl ?_)
          | refine rl_step (by decide) (op_pick_f rfl rfl ?_)
          | refine rl_step (by decide) (op_lss rfl rfl ?_)
          | refine rl_step (by decide) (op_leq rfl rfl ?_)
          | refine rl_step (by decide) (op_gtr rfl rfl ?_)
          | refine rl_step (by decide) (op_geq rfl rfl ?_)
          | refine rl_step (by decide) (op_eql rfl rfl ?_)
          | refine rl_step (by decide) (op_neq rfl rfl ?_)
          | refine rl_step (by decide) (op_not rfl ?_)
          | refine rl_step (by decide) (op_min rfl rfl ?_)
          | refine rl_step (by decide) (op_max rfl rfl ?_)
          | refine rl_step (by decide) (op_extract rfl rfl ?_)
          | refine rl_step (by decide) (op_add rfl rfl (by omega) ?_)
          | refine rl_step (by decide) (op_sub rfl rfl (by omega) ?_)
          | refine rl_step (by decide) (op_neg rfl (by omega) ?_)))
      exact (ih (k + 1, M3, _) _ ⟨by show k + 1 ≤ _; omega, hr, hs, hcss, hbox⟩ (by show _ - (k + 1) < _ - k; omega)).sub (by repeat (first | exact trivial | refine ⟨rfl, ?_⟩))
    · (repeat (first
          | refine run_seq ?_
          | refine run_region_l ?_
          | refine rl_nil ?_
          | refine rl_step (by decide) (op_move rfl ?_)
          | refine rl_step (by decide) (op_assign rfl ?_)
          | refine run_block ?_
          | refine run_inBlock ?_
          | refine run_exit rfl ?_
          | refine run_skip ?_
          | refine run_label ?_
          | refine run_true rfl ?_
          | refine run_false rfl ?_
          | refine rl_yes rfl rfl ?_
          | refine rl_no rfl rfl rfl (by decide) ?_
          | refine rl_step (by decide) (op_pick_t rfl rfl ?_)
          | refine rl_step (by decide) (op_pick_f rfl rfl ?_)
          | refine rl_step (by decide) (op_lss rfl rfl ?_)
          | refine rl_step (by decide) (op_leq rfl rfl ?_)
          | refine rl_step (by decide) (op_gtr rfl rfl ?_)
          | refine rl_step (by decide) (op_geq rfl rfl ?_)
          | refine rl_step (by decide) (op_eql rfl rfl ?_)
          | refine rl_step (by decide) (op_neq rfl rfl ?_)
          | refine rl_step (by decide) (op_not rfl ?_)
          | refine rl_step (by decide) (op_min rfl rfl ?_)
          | refine rl_step (by decide) (op_max rfl rfl ?_)
          | refine rl_step (by decide) (op_extract rfl rfl ?_)
          | refine rl_step (by decide) (op_add rfl rfl (by omega) ?_)
          | refine rl_step (by decide) (op_sub rfl rfl (by omega) ?_)
          | refine rl_step (by decide) (op_neg rfl (by omega) ?_)))
      refine run_ret1 Try.func46 rfl rfl ?_
      obtain ⟨hsl, hst⟩ := hbox.freeze hcss hby hB
      exact ⟨hr.bel, hsl.mono (hr.st hst).fin⟩

end Go.Proofs.Ytocoinkhbjlbhaa
