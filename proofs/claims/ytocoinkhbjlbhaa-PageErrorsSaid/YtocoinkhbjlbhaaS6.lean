/-
  Walks: the room of a page; the lines and pages of the law's examples.
-/
import Derived.Test.YtocoinkhbjlbhaaS5
namespace Go.Proofs.Ytocoinkhbjlbhaa
open Go Go.RowKit

/-- How many lines of a page are used. -/
def usedM (p : Pg) : Int := p.body.length + p.notes.length + min (p.notes.length : Int) 1

theorem pg_len {M : Mut} {w : World} {v : Value} {l : List Line} (h : SlOf eLine M w v l) : (l.length : Int) ≤ 2199023255552 := by
  have := h.bytes
  have e : eLine.by_ = 64 := rfl
  rw [e] at this
  omega

theorem room_p (M : Mut) (w : World) (v : Value) (p : Pg) (h : Int) (hm : MB M w) (hv : ePg.V M w v p) (hh : -1152921504606846976 ≤ h ∧ h ≤ 1152921504606846976) :
    CallsV Try.prog 25 [v, .int .i64 h] w (fun u w' => u = .int .i64 (max (h - p.body.length - p.notes.length - min (p.notes.length : Int) 1) 0) ∧ Below w.heap.size w w') := by
  obtain ⟨b, n, rfl, _, hb, hn⟩ := ePg_V.1 hv
  have hr := Rn.refl hm
  have l1 := pg_len hb
  have l2 := pg_len hn
  refine callsV_of_run Try.func25 rfl Try.ntmps25 (Nat.le_of_ble_eq_true rfl) ?_
  (repeat (first
      | refine run_seq ?_
      | refine run_region_l ?_
      | refine rl_nil ?_
      | refine rl_step (by decide) (op_move rfl ?_)
      | refine rl_step (by decide) (op_assign rfl ?_)
      | refine run_block ?_
      | refine run_inBlock ?_
      | refine run_exit rfl ?_
      | refine run_skip ?_
      | refine run_label ?_
      | refine run_true rfl ?_
      | refine run_false rfl ?_
      | refine rl_yes rfl rfl ?_
      | refine rl_no rfl rfl rfl (by decide) ?_
      | refine rl_step (by decide) (op_pick_t rfl rfl ?_)
      | refine rl_step (by decide) (op_pick_f rfl rfl ?_)
      | refine rl_step (by decide) (op_lss rfl rfl ?_)
      | refine rl_step (by decide) (op_leq rfl rfl ?_)
      | refine rl_step (by decide) (op_gtr rfl rfl ?_)
      | refine rl_step (by decide) (op_geq rfl rfl ?_)
      | refine rl_step (by decide) (op_eql rfl rfl ?_)
      | refine rl_step (by decide) (op_neq rfl rfl ?_)
      | refine rl_step (by decide) (op_not rfl ?_)
      | refine rl_step (by decide) (op_min rfl rfl ?_)
      | refine rl_step (by decide) (op_max rfl rfl ?_)
      | refine rl_step (by decide) (op_extract rfl rfl ?_)
      | refine rl_step (by decide) (op_add rfl rfl (by omega) ?_)
      | refine rl_step (by decide) (op_sub rfl rfl (by omega) ?_)
      | refine rl_step (by decide) (op_neg rfl (by omega) ?_)))
  refine rl_step (by decide) (op_box (cs := [.int .i64 p.num, .int .i64 p.suf, .int .i64 p.entry, .int .i64 p.version, b, n]) 1 hr rfl rfl ?_)
  intro bp w1 M1 hB hbox hs
  replace hb := hb.mono hs.x
  replace hn := hn.mono hs.x
  replace hr := hr.up hs
  (repeat (first
      | refine run_seq ?_
      | refine run_region_l ?_
      | refine rl_nil ?_
      | refine rl_step (by decide) (op_move rfl ?_)
      | refine rl_step (by decide) (op_assign rfl ?_)
      | refine run_block ?_
      | refine run_inBlock ?_
      | refine run_exit rfl ?_
      | refine run_skip ?_
      | refine run_label ?_
      | refine run_true rfl ?_
      | refine run_false rfl ?_
      | refine rl_yes rfl rfl ?_
      | refine rl_no rfl rfl rfl (by decide) ?_
      | refine rl_step (by decide) (op_pick_t rfl rfl ?_)
      | refine rl_step (by decide) (op_pick_f rfl rfl ?_)
      | refine rl_step (by decide) (op_lss rfl rfl ?_)
      | refine rl_step (by decide) (op_leq rfl rfl ?_)
      | refine rl_step (by decide) (op_gtr rfl rfl ?_)
      | refine rl_step (by decide) (op_geq rfl rfl ?_)
      | refine rl_step (by decide) (op_eql rfl rfl ?_)
      | refine rl_step (by decide) (op_neq rfl rfl ?_)
      | refine rl_step (by decide) (op_not rfl ?_)
      | refine rl_step (by decide) (op_min rfl rfl ?_)
      | refine rl_step (by decide) (op_max rfl rfl ?_)
      | refine rl_step (by decide) (op_extract rfl rfl ?_)
      | refine rl_step (by decide) (op_add rfl rfl (by omega) ?_)
      | refine rl_step (by decide) (op_sub rfl rfl (by omega) ?_)
      | refine rl_step (by decide) (op_neg rfl (by omega) ?_)))
  refine rl_step (by decide) (op_fieldBox fdP3 rfl ?_)
  refine rl_step (by decide) (op_load1 tdSL rfl hbox rfl ?_)
  refine rl_step (by decide) (op_len uL rfl hb ?_)
  (repeat (first
      | refine run_seq ?_
      | refine run_region_l ?_
      | refine rl_nil ?_
      | refine rl_step (by decide) (op_move rfl ?_)
      | refine rl_step (by decide) (op_assign rfl ?_)
      | refine run_block ?_
      | refine run_inBlock ?_
      | refine run_exit rfl ?_
      | refine run_skip ?_
      | refine run_label ?_
      | refine run_true rfl ?_
      | refine run_false rfl ?_
      | refine rl_yes rfl rfl ?_
      | refine rl_no rfl rfl rfl (by decide) ?_
      | refine rl_step (by decide) (op_pick_t rfl rfl ?_)
      | refine rl_step (by decide) (op_pick_f rfl rfl ?_)
      | refine rl_step (by decide) (op_lss rfl rfl ?_)
      | refine rl_step (by decide) (op_leq rfl rfl ?_)
      | refine rl_step (by decide) (op_gtr rfl rfl ?_)
      | refine rl_step (by decide) (op_geq rfl rfl ?_)
      | refine rl_step (by decide) (op_eql rfl rfl ?_)
      | refine rl_step (by decide) (op_neq rfl rfl ?_)
      | refine rl_step (by decide) (op_not rfl ?_)
      | refine rl_step (by decide) (op_min rfl rfl ?_)
      | refine rl_step (by decide) (op_max rfl rfl ?_)
      | refine rl_step (by decide) (op_extract rfl rfl ?_)
      | refine rl_step (by decide) (op_add rfl rfl (by omega) ?_)
      | refine rl_step (by decide) (op_sub rfl rfl (by omega) ?_)
      | refine rl_step (by decide) (op_neg rfl (by omega) ?_)))
  refine rl_step (by decide) (op_fieldBox fdP4 rfl ?_)
  refine rl_step (by decide) (op_load1 tdSL rfl hbox rfl ?_)
  refine rl_step (by decide) (op_len uL rfl hn ?_)
  (repeat (first
      | refine run_seq ?_
      | refine run_region_l ?_
      | refine rl_nil ?_
      | refine rl_step (by decide) (op_move rfl ?_)
      | refine rl_step (by decide) (op_assign rfl ?_)
      | refine run_block ?_
      | refine run_inBlock ?_
      | refine run_exit rfl ?_
      | refine run_skip ?_
      | refine run_label ?_
      | refine run_true rfl ?_
      | refine run_false rfl ?_
      | refine rl_yes rfl rfl ?_
      | refine rl_no rfl rfl rfl (by decide) ?_
      | refine rl_step (by decide) (op_pick_t rfl rfl ?_)
      | refine rl_step (by decide) (op_pick_f rfl rfl ?_)
      | refine rl_step (by decide) (op_lss rfl rfl ?_)
      | refine rl_step (by decide) (op_leq rfl rfl ?_)
      | refine rl_step (by decide) (op_gtr rfl rfl ?_)
      | refine rl_step (by decide) (op_geq rfl rfl ?_)
      | refine rl_step (by decide) (op_eql rfl rfl ?_)
      | refine rl_step (by decide) (op_neq rfl rfl ?_)
      | refine rl_step (by decide) (op_not rfl ?_)
      | refine rl_step (by decide) (op_min rfl rfl ?_)
      | refine rl_step (by decide) (op_max rfl rfl ?_)
      | refine rl_step (by decide) (op_extract rfl rfl ?_)
      | refine rl_step (by decide) (op_add rfl rfl (by omega) ?_)
      | refine rl_step (by decide) (op_sub rfl rfl (by omega) ?_)
      | refine rl_step (by decide) (op_neg rfl (by omega) ?_)))
  refine rl_step (by decide) (op_fieldBox fdP4 rfl ?_)
  refine rl_step (by decide) (op_load1 tdSL rfl hbox rfl ?_)
  refine rl_step (by decide) (op_len uL rfl hn ?_)
  (repeat (first
      | refine run_seq ?_
      | refine run_region_l ?_
      | refine rl_nil ?_
      | refine rl_step (by decide) (op_move rfl ?_)
      | refine rl_step (by decide) (op_assign rfl ?_)
      | refine run_block ?_
      | refine run_inBlock ?_
      | refine run_exit rfl ?_
      | refine run_skip ?_
      | refine run_label ?_
      | refine run_true rfl ?_
      | refine run_false rfl ?_
      | refine rl_yes rfl rfl ?_
      | refine rl_no rfl rfl rfl (by decide) ?_
      | refine rl_step (by decide) (op_pick_t rfl rfl ?_)
      | refine rl_step (by decide) (op_pick_f rfl rfl ?_)
      | refine rl_step (by decide) (op_lss rfl rfl ?_)
      | refine rl_step (by decide) (op_leq rfl rfl ?_)
      | refine rl_step (by decide) (op_gtr rfl rfl ?_)
      | refine rl_step (by decide) (op_geq rfl rfl ?_)
      | refine rl_step (by decide) (op_eql rfl rfl ?_)
      | refine rl_step (by decide) (op_neq rfl rfl ?_)
      | refine rl_step (by decide) (op_not rfl ?_)
      | refine rl_step (by decide) (op_min rfl rfl ?_)
      | refine rl_step (by decide) (op_max rfl rfl ?_)
      | refine rl_step (by decide) (op_extract rfl rfl ?_)
      | refine rl_step (by decide) (op_add rfl rfl (by omega) ?_)
      | refine rl_step (by decide) (op_sub rfl rfl (by omega) ?_)
      | refine rl_step (by decide) (op_neg rfl (by omega) ?_)))
  refine run_ret1 Try.func25 rfl rfl ?_
  exact ⟨rfl, hr.bel⟩

theorem used_c (M : Mut) (w : World) (v : Value) (p : Pg) (hm : MB M w) (hv : ePg.V M w v p) :
    CallsV Try.prog 50 [v] w (fun u w' => u = .int .i64 (usedM p) ∧ Below w.heap.size w w') := by
  obtain ⟨b, n, rfl, _, hb, hn⟩ := ePg_V.1 hv
  have hr := Rn.refl hm
  have l1 := pg_len hb
  have l2 := pg_len hn
  refine callsV_of_run Try.func50 rfl Try.ntmps50 (Nat.le_of_ble_eq_true rfl) ?_
  (repeat (first
      | refine run_seq ?_
      | refine run_region_l ?_
      | refine rl_nil ?_
      | refine rl_step (by decide) (op_move rfl ?_)
      | refine rl_step (by decide) (op_assign rfl ?_)
      | refine run_block ?_
      | refine run_inBlock ?_
      | refine run_exit rfl ?_
      | refine run_skip ?_
      | refine run_label ?_
      | refine run_true rfl ?_
      | refine run_false rfl ?_
      | refine rl_yes rfl rfl ?_
      | refine rl_no rfl rfl rfl (by decide) ?_
      | refine rl_step (by decide) (op_pick_t rfl rfl ?_)
      | refine rl_step (by decide) (op_pick_f rfl rfl ?_)
      | refine rl_step (by decide) (op_lss rfl rfl ?_)
      | refine rl_step (by decide) (op_leq rfl rfl ?_)
      | refine rl_step (by decide) (op_gtr rfl rfl ?_)
      | refine rl_step (by decide) (op_geq rfl rfl ?_)
      | refine rl_step (by decide) (op_eql rfl rfl ?_)
      | refine rl_step (by decide) (op_neq rfl rfl ?_)
      | refine rl_step (by decide) (op_not rfl ?_)
      | refine rl_step (by decide) (op_min rfl rfl ?_)
      | refine rl_step (by decide) (op_max rfl rfl ?_)
      | refine rl_step (by decide) (op_extract rfl rfl ?_)
      | refine rl_step (by decide) (op_add rfl rfl (by omega) ?_)
      | refine rl_step (by decide) (op_sub rfl rfl (by omega) ?_)
      | refine rl_step (by decide) (op_neg rfl (by omega) ?_)))
  refine rl_step (by decide) (op_box (cs := [.int .i64 p.num, .int .i64 p.suf, .int .i64 p.entry, .int .i64 p.version, b, n]) 1 hr rfl rfl ?_)
  intro bp w1 M1 hB hbox hs
  replace hb := hb.mono hs.x
  replace hn := hn.mono hs.x
  replace hr := hr.up hs
  (repeat (first
      | refine run_seq ?_
      | refine run_region_l ?_
      | refine rl_nil ?_
      | refine rl_step (by decide) (op_move rfl ?_)
      | refine rl_step (by decide) (op_assign rfl ?_)
      | refine run_block ?_
      | refine run_inBlock ?_
      | refine run_exit rfl ?_
      | refine run_skip ?_
      | refine run_label ?_
      | refine run_true rfl ?_
      | refine run_false rfl ?_
      | refine rl_yes rfl rfl ?_
      | refine rl_no rfl rfl rfl (by decide) ?_
      | refine rl_step (by decide) (op_pick_t rfl rfl ?_)
      | refine rl_step (by decide) (op_pick_f rfl rfl ?_)
      | refine rl_step (by decide) (op_lss rfl rfl ?_)
      | refine rl_step (by decide) (op_leq rfl rfl ?_)
      | refine rl_step (by decide) (op_gtr rfl rfl ?_)
      | refine rl_step (by decide) (op_geq rfl rfl ?_)
      | refine rl_step (by decide) (op_eql rfl rfl ?_)
      | refine rl_step (by decide) (op_neq rfl rfl ?_)
      | refine rl_step (by decide) (op_not rfl ?_)
      | refine rl_step (by decide) (op_min rfl rfl ?_)
      | refine rl_step (by decide) (op_max rfl rfl ?_)
      | refine rl_step (by decide) (op_extract rfl rfl ?_)
      | refine rl_step (by decide) (op_add rfl rfl (by omega) ?_)
      | refine rl_step (by decide) (op_sub rfl rfl (by omega) ?_)
      | refine rl_step (by decide) (op_neg rfl (by omega) ?_)))
  refine rl_step (by decide) (op_fieldBox fdP3 rfl ?_)
  refine rl_step (by decide) (op_load1 tdSL rfl hbox rfl ?_)
  refine rl_step (by decide) (op_len uL rfl hb ?_)
  (repeat (first
      | refine run_seq ?_
      | refine run_region_l ?_
      | refine rl_nil ?_
      | refine rl_step (by decide) (op_move rfl ?_)
      | refine rl_step (by decide) (op_assign rfl ?_)
      | refine run_block ?_
      | refine run_inBlock ?_
      | refine run_exit rfl ?_
      | refine run_skip ?_
      | refine run_label ?_
      | refine run_true rfl ?_
      | refine run_false rfl ?_
      | refine rl_yes rfl rfl ?_
      | refine rl_no rfl rfl rfl (by decide) ?_
      | refine rl_step (by decide) (op_pick_t rfl rfl ?_)
      | refine rl_step (by decide) (op_pick_f rfl rfl ?_)
      | refine rl_step (by decide) (op_lss rfl rfl ?_)
      | refine rl_step (by decide) (op_leq rfl rfl ?_)
      | refine rl_step (by decide) (op_gtr rfl rfl ?_)
      | refine rl_step (by decide) (op_geq rfl rfl ?_)
      | refine rl_step (by decide) (op_eql rfl rfl ?_)
      | refine rl_step (by decide) (op_neq rfl rfl ?_)
      | refine rl_step (by decide) (op_not rfl ?_)
      | refine rl_step (by decide) (op_min rfl rfl ?_)
      | refine rl_step (by decide) (op_max rfl rfl ?_)
      | refine rl_step (by decide) (op_extract rfl rfl ?_)
      | refine rl_step (by decide) (op_add rfl rfl (by omega) ?_)
      | refine rl_step (by decide) (op_sub rfl rfl (by omega) ?_)
      | refine rl_step (by decide) (op_neg rfl (by omega) ?_)))
  refine rl_step (by decide) (op_fieldBox fdP4 rfl ?_)
  refine rl_step (by decide) (op_load1 tdSL rfl hbox rfl ?_)
  refine rl_step (by decide) (op_len uL rfl hn ?_)
  (repeat (first
      | refine run_seq ?_
      | refine run_region_l ?_
      | refine rl_nil ?_
      | refine rl_step (by decide) (op_move rfl ?_)
      | refine rl_step (by decide) (op_assign rfl ?_)
      | refine run_block ?_
      | refine run_inBlock ?_
      | refine run_exit rfl ?_
      | refine run_skip ?_
      | refine run_label ?_
      | refine run_true rfl ?_
      | refine run_false rfl ?_
      | refine rl_yes rfl rfl ?_
      | refine rl_no rfl rfl rfl (by decide) ?_
      | refine rl_step (by decide) (op_pick_t rfl rfl ?_)
      | refine rl_step (by decide) (op_pick_f rfl rfl ?_)
      | refine rl_step (by decide) (op_lss rfl rfl ?_)
      | refine rl_step (by decide) (op_leq rfl rfl ?_)
      | refine rl_step (by decide) (op_gtr rfl rfl ?_)
      | refine rl_step (by decide) (op_geq rfl rfl ?_)
      | refine rl_step (by decide) (op_eql rfl rfl ?_)
      | refine rl_step (by decide) (op_neq rfl rfl ?_)
      | refine rl_step (by decide) (op_not rfl ?_)
      | refine rl_step (by decide) (op_min rfl rfl ?_)
      | refine rl_step (by decide) (op_max rfl rfl ?_)
      | refine rl_step (by decide) (op_extract rfl rfl ?_)
      | refine rl_step (by decide) (op_add rfl rfl (by omega) ?_)
      | refine rl_step (by decide) (op_sub rfl rfl (by omega) ?_)
      | refine rl_step (by decide) (op_neg rfl (by omega) ?_)))
  refine rl_step (by decide) (op_fieldBox fdP4 rfl ?_)
  refine rl_step (by decide) (op_load1 tdSL rfl hbox rfl ?_)
  refine rl_step (by decide) (op_len uL rfl hn ?_)
  (repeat (first
      | refine run_seq ?_
      | refine run_region_l ?_
      | refine rl_nil ?_
      | refine rl_step (by decide) (op_move rfl ?_)
      | refine rl_step (by decide) (op_assign rfl ?_)
      | refine run_block ?_
      | refine run_inBlock ?_
      | refine run_exit rfl ?_
      | refine run_skip ?_
      | refine run_label ?_
      | refine run_true rfl ?_
      | refine run_false rfl ?_
      | refine rl_yes rfl rfl ?_
      | refine rl_no rfl rfl rfl (by decide) ?_
      | refine rl_step (by decide) (op_pick_t rfl rfl ?_)
      | refine rl_step (by decide) (op_pick_f rfl rfl ?_)
      | refine rl_step (by decide) (op_lss rfl rfl ?_)
      | refine rl_step (by decide) (op_leq rfl rfl ?_)
      | refine rl_step (by decide) (op_gtr rfl rfl ?_)
      | refine rl_step (by decide) (op_geq rfl rfl ?_)
      | refine rl_step (by decide) (op_eql rfl rfl ?_)
      | refine rl_step (by decide) (op_neq rfl rfl ?_)
      | refine rl_step (by decide) (op_not rfl ?_)
      | refine rl_step (by decide) (op_min rfl rfl ?_)
      | refine rl_step (by decide) (op_max rfl rfl ?_)
      | refine rl_step (by decide) (op_extract rfl rfl ?_)
      | refine rl_step (by decide) (op_add rfl rfl (by omega) ?_)
      | refine rl_step (by decide) (op_sub rfl rfl (by omega) ?_)
      | refine rl_step (by decide) (op_neg rfl (by omega) ?_)))
  refine run_ret1 Try.func50 rfl rfl ?_
  exact ⟨rfl, hr.bel⟩

theorem usedM_bd {M : Mut} {w : World} {v : Value} {p : Pg} (hv : ePg.V M w v p) : 0 ≤ usedM p ∧ usedM p ≤ 8796093022208 := by
  obtain ⟨b, n, rfl, _, hb, hn⟩ := ePg_V.1 hv
  have l1 := pg_len hb
  have l2 := pg_len hn
  unfold usedM
  omega

theorem room_r (M : Mut) (w : World) (v : Value) (p : Pg) (h : Int) (hm : MB M w) (hv : ePg.V M w v p) (hh : -1152921504606846976 ≤ h ∧ h ≤ 1152921504606846976) :
    CallsV Try.prog 26 [v, .int .i64 h] w (fun u w' => u = .int .i64 (max (h - p.body.length - p.notes.length - min (p.notes.length : Int) 1) 0) ∧ Below w.heap.size w w') := by
  have hbd := usedM_bd hv
  obtain ⟨b, n, rfl, hi, hb, hn⟩ := ePg_V.1 hv
  have hr := Rn.refl hm
  refine callsV_of_run Try.func26 rfl Try.ntmps26 (Nat.le_of_ble_eq_true rfl) ?_
  (repeat (first
      | refine run_seq ?_
      | refine run_region_l ?_
      | refine rl_nil ?_
      | refine rl_step (by decide) (op_move rfl ?_)
      | refine rl_step (by decide) (op_assign rfl ?_)
      | refine run_block ?_
      | refine run_inBlock ?_
      | refine run_exit rfl ?_
      | refine run_skip ?_
      | refine run_label ?_
      | refine run_true rfl ?_
      | refine run_false rfl ?_
      | refine rl_yes rfl rfl ?_
      | refine rl_no rfl rfl rfl (by decide) ?_
      | refine rl_step (by decide) (op_pick_t rfl rfl ?_)
      | refine rl_step (by decide) (op_pick_f rfl rfl ?_)
      | refine rl_step (by decide) (op_lss rfl rfl ?_)
      | refine rl_step (by decide) (op_leq rfl rfl ?_)
      | refine rl_step (by decide) (op_gtr rfl rfl ?_)
      | refine rl_step (by decide) (op_geq rfl rfl ?_)
      | refine rl_step (by decide) (op_eql rfl rfl ?_)
      | refine rl_step (by decide) (op_neq rfl rfl ?_)
      | refine rl_step (by decide) (op_not rfl ?_)
      | refine rl_step (by decide) (op_min rfl rfl ?_)
      | refine rl_step (by decide) (op_max rfl rfl ?_)
      | refine rl_step (by decide) (op_extract rfl rfl ?_)
      | refine rl_step (by decide) (op_add rfl rfl (by omega) ?_)
      | refine rl_step (by decide) (op_sub rfl rfl (by omega) ?_)
      | refine rl_step (by decide) (op_neg rfl (by omega) ?_)))
  refine rl_step (by decide) (op_box (cs := [.int .i64 p.num, .int .i64 p.suf, .int .i64 p.entry, .int .i64 p.version, b, n]) 1 hr rfl rfl ?_)
  intro bp w1 M1 hB hbox hs
  replace hb := hb.mono hs.x
  replace hn := hn.mono hs.x
  replace hr := hr.up hs
  (repeat (first
      | refine run_seq ?_
      | refine run_region_l ?_
      | refine rl_nil ?_
      | refine rl_step (by decide) (op_move rfl ?_)
      | refine rl_step (by decide) (op_assign rfl ?_)
      | refine run_block ?_
      | refine run_inBlock ?_
      | refine run_exit rfl ?_
      | refine run_skip ?_
      | refine run_label ?_
      | refine run_true rfl ?_
      | refine run_false rfl ?_
      | refine rl_yes rfl rfl ?_
      | refine rl_no rfl rfl rfl (by decide) ?_
      | refine rl_step (by decide) (op_pick_t rfl rfl ?_)
      | refine rl_step (by decide) (op_pick_f rfl rfl ?_)
      | refine rl_step (by decide) (op_lss rfl rfl ?_)
      | refine rl_step (by decide) (op_leq rfl rfl ?_)
      | refine rl_step (by decide) (op_gtr rfl rfl ?_)
      | refine rl_step (by decide) (op_geq rfl rfl ?_)
      | refine rl_step (by decide) (op_eql rfl rfl ?_)
      | refine rl_step (by decide) (op_neq rfl rfl ?_)
      | refine rl_step (by decide) (op_not rfl ?_)
      | refine rl_step (by decide) (op_min rfl rfl ?_)
      | refine rl_step (by decide) (op_max rfl rfl ?_)
      | refine rl_step (by decide) (op_extract rfl rfl ?_)
      | refine rl_step (by decide) (op_add rfl rfl (by omega) ?_)
      | refine rl_step (by decide) (op_sub rfl rfl (by omega) ?_)
      | refine rl_step (by decide) (op_neg rfl (by omega) ?_)))
  refine rl_step (by decide) (op_loadn tdP rfl hbox (Nat.le_of_ble_eq_true rfl) ?_)
  refine rl_step (by decide) (op_call ent50 rfl (used_c M1 w1 _ p hr.mb (ePg_V.2 ⟨b, n, rfl, hi, hb, hn⟩)) ?_)
  rintro u w2 ⟨rfl, hbel⟩
  replace hr := hr.up (UpM.of_below hbel)
  (repeat (first
      | refine run_seq ?_
      | refine run_region_l ?_
      | refine rl_nil ?_
      | refine rl_step (by decide) (op_move rfl ?_)
      | refine rl_step (by decide) (op_assign rfl ?_)
      | refine run_block ?_
      | refine run_inBlock ?_
      | refine run_exit rfl ?_
      | refine run_skip ?_
      | refine run_label ?_
      | refine run_true rfl ?_
      | refine run_false rfl ?_
      | refine rl_yes rfl rfl ?_
      | refine rl_no rfl rfl rfl (by decide) ?_
      | refine rl_step (by decide) (op_pick_t rfl rfl ?_)
      | refine rl_step (by decide) (op_pick_f rfl rfl ?_)
      | refine rl_step (by decide) (op_lss rfl rfl ?_)
      | refine rl_step (by decide) (op_leq rfl rfl ?_)
      | refine rl_step (by decide) (op_gtr rfl rfl ?_)
      | refine rl_step (by decide) (op_geq rfl rfl ?_)
      | refine rl_step (by decide) (op_eql rfl rfl ?_)
      | refine rl_step (by decide) (op_neq rfl rfl ?_)
      | refine rl_step (by decide) (op_not rfl ?_)
      | refine rl_step (by decide) (op_min rfl rfl ?_)
      | refine rl_step (by decide) (op_max rfl rfl ?_)
      | refine rl_step (by decide) (op_extract rfl rfl ?_)
      | refine rl_step (by decide) (op_add rfl rfl (by omega) ?_)
      | refine rl_step (by decide) (op_sub rfl rfl (by omega) ?_)
      | refine rl_step (by decide) (op_neg rfl (by omega) ?_)))
  refine run_ret1 Try.func26 rfl rfl ?_
  refine ⟨?_, hr.bel⟩
  unfold usedM
  rw [show h - ((p.body.length : Int) + p.notes.length + min (p.notes.length : Int) 1) = h - p.body.length - p.notes.length - min (p.notes.length : Int) 1 by omega]

theorem line_c (M : Mut) (w : World) (n : Int) (u : Value) (l : List Int) (hm : MB M w) (hu : SlOf eI M w u l) (hn : 0 ≤ n ∧ n ≤ 1000000) :
    CallsV Try.prog 51 [.int .i64 n, u] w (fun v w' => Below w.heap.size w w' ∧ eLine.V M w' v ⟨n, n + 1, [], l⟩) := by
  have hr := Rn.refl hm
  obtain ⟨a, c, rfl, _⟩ := SlOf.ex hu
  refine callsV_of_run Try.func51 rfl Try.ntmps51 (Nat.le_of_ble_eq_true rfl) ?_
  (repeat (first
      | refine run_seq ?_
      | refine run_region_l ?_
      | refine rl_nil ?_
      | refine rl_step (by decide) (op_move rfl ?_)
      | refine rl_step (by decide) (op_assign rfl ?_)
      | refine run_block ?_
      | refine run_inBlock ?_
      | refine run_exit rfl ?_
      | refine run_skip ?_
      | refine run_label ?_
      | refine run_true rfl ?_
      | refine run_false rfl ?_
      | refine rl_yes rfl rfl ?_
      | refine rl_no rfl rfl rfl (by decide) ?_
      | refine rl_step (by decide) (op_pick_t rfl rfl ?_)
      | refine rl_step (by decide) (op_pick_f rfl rfl ?_)
      | refine rl_step (by decide) (op_lss rfl rfl ?_)
      | refine rl_step (by decide) (op_leq rfl rfl ?_)
      | refine rl_step (by decide) (op_gtr rfl rfl ?_)
      | refine rl_step (by decide) (op_geq rfl rfl ?_)
      | refine rl_step (by decide) (op_eql rfl rfl ?_)
      | refine rl_step (by decide) (op_neq rfl rfl ?_)
      | refine rl_step (by decide) (op_not rfl ?_)
      | refine rl_step (by decide) (op_min rfl rfl ?_)
      | refine rl_step (by decide) (op_max rfl rfl ?_)
      | refine rl_step (by decide) (op_extract rfl rfl ?_)
      | refine rl_step (by decide) (op_add rfl rfl (by omega) ?_)
      | refine rl_step (by decide) (op_sub rfl rfl (by omega) ?_)
      | refine rl_step (by decide) (op_neg rfl (by omega) ?_)))
  refine rl_step (by decide) (op_alloc 1 hr tdL ?_)
  intro b w1 M1 hB hbox hs
  replace hu := hu.mono hs.x
  replace hr := hr.up hs
  (repeat (first
      | refine run_seq ?_
      | refine run_region_l ?_
      | refine rl_nil ?_
      | refine rl_step (by decide) (op_move rfl ?_)
      | refine rl_step (by decide) (op_assign rfl ?_)
      | refine run_block ?_
      | refine run_inBlock ?_
      | refine run_exit rfl ?_
      | refine run_skip ?_
      | refine run_label ?_
      | refine run_true rfl ?_
      | refine run_false rfl ?_
      | refine rl_yes rfl rfl ?_
      | refine rl_no rfl rfl rfl (by decide) ?_
      | refine rl_step (by decide) (op_pick_t rfl rfl ?_)
      | refine rl_step (by decide) (op_pick_f rfl rfl ?_)
      | refine rl_step (by decide) (op_lss rfl rfl ?_)
      | refine rl_step (by decide) (op_leq rfl rfl ?_)
      | refine rl_step (by decide) (op_gtr rfl rfl ?_)
      | refine rl_step (by decide) (op_geq rfl rfl ?_)
      | refine rl_step (by decide) (op_eql rfl rfl ?_)
      | refine rl_step (by decide) (op_neq rfl rfl ?_)
      | refine rl_step (by decide) (op_not rfl ?_)
      | refine rl_step (by decide) (op_min rfl rfl ?_)
      | refine rl_step (by decide) (op_max rfl rfl ?_)
      | refine rl_step (by decide) (op_extract rfl rfl ?_)
      | refine rl_step (by decide) (op_add rfl rfl (by omega) ?_)
      | refine rl_step (by decide) (op_sub rfl rfl (by omega) ?_)
      | refine rl_step (by decide) (op_neg rfl (by omega) ?_)))
  refine rl_step (by decide) (op_build (parts := [(0, .tmp 5), (1, .tmp 7), (3, .tmp 8)]) (vs := [.int .i64 n, .int .i64 (n + 1), .slice a l.length c]) (pl := [(0, [.int .i64 n]), (1, [.int .i64 (n + 1)]), (3, [.slice a l.length c])]) sbL rfl
    ⟨rfl, rfl, Nat.le_of_ble_eq_true rfl, rfl, rfl, Nat.le_of_ble_eq_true rfl, rfl, rfl, Nat.le_of_ble_eq_true rfl, trivial⟩ ?_)
  refine rl_step0 (op_store (c := [.int .i64 n, .int .i64 (n + 1), .slice none 0 0, .slice a l.length c]) tdL rfl rfl rfl (by simp [Value.oneCell']) rfl hr hB hbox (Nat.le_of_ble_eq_true rfl) ?_)
  intro w2 hbox hst
  replace hu := hu.mono hst.x
  replace hr := hr.st hst
  (repeat (first
      | refine run_seq ?_
      | refine run_region_l ?_
      | refine rl_nil ?_
      | refine rl_step (by decide) (op_move rfl ?_)
      | refine rl_step (by decide) (op_assign rfl ?_)
      | refine run_block ?_
      | refine run_inBlock ?_
      | refine run_exit rfl ?_
      | refine run_skip ?_
      | refine run_label ?_
      | refine run_true rfl ?_
      | refine run_false rfl ?_
      | refine rl_yes rfl rfl ?_
      | refine rl_no rfl rfl rfl (by decide) ?_
      | refine rl_step (by decide) (op_pick_t rfl rfl ?_)
      | refine rl_step (by decide) (op_pick_f rfl rfl ?_)
      | refine rl_step (by decide) (op_lss rfl rfl ?_)
      | refine rl_step (by decide) (op_leq rfl rfl ?_)
      | refine rl_step (by decide) (op_gtr rfl rfl ?_)
      | refine rl_step (by decide) (op_geq rfl rfl ?_)
      | refine rl_step (by decide) (op_eql rfl rfl ?_)
      | refine rl_step (by decide) (op_neq rfl rfl ?_)
      | refine rl_step (by decide) (op_not rfl ?_)
      | refine rl_step (by decide) (op_min rfl rfl ?_)
      | refine rl_step (by decide) (op_max rfl rfl ?_)
      | refine rl_step (by decide) (op_extract rfl rfl ?_)
      | refine rl_step (by decide) (op_add rfl rfl (by omega) ?_)
      | refine rl_step (by decide) (op_sub rfl rfl (by omega) ?_)
      | refine rl_step (by decide) (op_neg rfl (by omega) ?_)))
  refine run_retc (cs := [.int .i64 n, .int .i64 (n + 1), .slice none 0 0, .slice a l.length c]) Try.func51 rfl rfl tdL hbox rfl ?_
  refine ⟨hr.bel, eLine_V.2 ⟨_, _, rfl, ?_, ?_, SlOf.nil _ _ _, hu.mono hr.fin⟩⟩ <;> (unfold I64; simp only; omega)

/-- Lines with the numbers from 'a' on. -/
def linesM (a : Int) : Nat → List Line
  | 0 => []
  | k + 1 => linesM a k ++ [⟨a + k, a + k + 1, [], []⟩]

theorem linesM_len (a : Int) : ∀ k, (linesM a k).length = k
  | 0 => rfl
  | k + 1 => by rw [linesM, List.length_append, linesM_len a k]; rfl

theorem lines_c (M : Mut) (w : World) (a : Int) (k : Nat) (hm : MB M w) (ha : 0 ≤ a ∧ a ≤ 1000) (hk : k ≤ 1000) :
    CallsV Try.prog 52 [.int .i64 a, .int .i64 (a + k - 1)] w (fun v w' => Below w.heap.size w w' ∧ SlOf eLine M w' v (linesM a k)) := by
  have hr := Rn.refl hm
  refine callsV_of_run Try.func52 rfl Try.ntmps52 (Nat.le_of_ble_eq_true rfl) ?_
  (repeat (first
      | refine run_seq ?_
      | refine run_region_l ?_
      | refine rl_nil ?_
      | refine rl_step (by decide) (op_move rfl ?_)
      | refine rl_step (by decide) (op_assign rfl ?_)
      | refine run_block ?_
      | refine run_inBlock ?_
      | refine run_exit rfl ?_
      | refine run_skip ?_
      | refine run_label ?_
      | refine run_true rfl ?_
      | refine run_false rfl ?_
      | refine rl_yes rfl rfl ?_
      | refine rl_no rfl rfl rfl (by decide) ?_
      | refine rl_step (by decide) (op_pick_t rfl rfl ?_)
      | refine rl_step (by decide) (op_pick_f rfl rfl ?_)
      | refine rl_step (by decide) (op_lss rfl rfl ?_)
      | refine rl_step (by decide) (op_leq rfl rfl ?_)
      | refine rl_step (by decide) (op_gtr rfl rfl ?_)
      | refine rl_step (by decide) (op_geq rfl rfl ?_)
      | refine rl_step (by decide) (op_eql rfl rfl ?_)
      | refine rl_step (by decide) (op_neq rfl rfl ?_)
      | refine rl_step (by decide) (op_not rfl ?_)
      | refine rl_step (by decide) (op_min rfl rfl ?_)
      | refine rl_step (by decide) (op_max rfl rfl ?_)
      | refine rl_step (by decide) (op_extract rfl rfl ?_)
      | refine rl_step (by decide) (op_add rfl rfl (by omega) ?_)
      | refine rl_step (by decide) (op_sub rfl rfl (by omega) ?_)
      | refine rl_step (by decide) (op_neg rfl (by omega) ?_)))
  refine (run_loop (α := Nat × Mut × Value) (fun x => [(1, .int .i64 (a + k - 1)), (5, x.2.2), (6, .int .i64 (a + x.1))])
    (fun x w' => x.1 ≤ k ∧ Rn M w x.2.1 w' ∧ SlOf eLine x.2.1 w' x.2.2 (linesM a x.1) ∧ Grow w.heap.size x.2.1 w' x.2.2 (linesM a x.1).length 4 5 47) (fun x => k - x.1) (0, M, .slice none 0 0) ⟨Nat.zero_le _, hr, SlOf.nil _ _ _, Grow.nil⟩ ?_).sub
      (by refine ⟨rfl, rfl, ?_, trivial⟩; simp [look])
  clear hr
  rintro ⟨j, M1, v⟩ w1 ⟨hj, hr, hs, hg⟩ ih
  simp only at hj hr hs hg ih
  try dsimp only
  (repeat (first
      | refine run_seq ?_
      | refine run_region_l ?_
      | refine rl_nil ?_
      | refine rl_step (by decide) (op_move rfl ?_)
      | refine rl_step (by decide) (op_assign rfl ?_)
      | refine run_block ?_
      | refine run_inBlock ?_
      | refine run_exit rfl ?_
      | refine run_skip ?_
      | refine run_label ?_
      | refine run_true rfl ?_
      | refine run_false rfl ?_
      | refine rl_yes rfl rfl ?_
      | refine rl_no rfl rfl rfl (by decide) ?_
      | refine rl_step (by decide) (op_pick_t rfl rfl ?_)
      | refine rl_step (by decide) (op_pick_f rfl rfl ?_)
      | refine rl_step (by decide) (op_lss rfl rfl ?_)
      | refine rl_step (by decide) (op_leq rfl rfl ?_)
      | refine rl_step (by decide) (op_gtr rfl rfl ?_)
      | refine rl_step (by decide) (op_geq rfl rfl ?_)
      | refine rl_step (by decide) (op_eql rfl rfl ?_)
      | refine rl_step (by decide) (op_neq rfl rfl ?_)
      | refine rl_step (by decide) (op_not rfl ?_)
      | refine rl_step (by decide) (op_min rfl rfl ?_)
      | refine rl_step (by decide) (op_max rfl rfl ?_)
      | refine rl_step (by decide) (op_extract rfl rfl ?_)
      | refine rl_step (by decide) (op_add rfl rfl (by omega) ?_)
      | refine rl_step (by decide) (op_sub rfl rfl (by omega) ?_)
      | refine rl_step (by decide) (op_neg rfl (by omega) ?_)))
  refine run_if rfl (fun hc => ?_) (fun hc => ?_)
  · (repeat (first
        | refine run_seq ?_
        | refine run_region_l ?_
        | refine rl_nil ?_
        | refine rl_step (by decide) (op_move rfl ?_)
        | refine rl_step (by decide) (op_assign rfl ?_)
        | refine run_block ?_
        | refine run_inBlock ?_
        | refine run_exit rfl ?_
        | refine run_skip ?_
        | refine run_label ?_
        | refine run_true rfl ?_
        | refine run_false rfl ?_
        | refine rl_yes rfl rfl ?_
        | refine rl_no rfl rfl rfl (by decide) ?_
        | refine rl_step (by decide) (op_pick_t rfl rfl ?_)
        | refine rl_step (by decide) (op_pick_f rfl rfl ?_)
        | refine rl_step (by decide) (op_lss rfl rfl ?_)
        | refine rl_step (by decide) (op_leq rfl rfl ?_)
        | refine rl_step (by decide) (op_gtr rfl rfl ?_)
        | refine rl_step (by decide) (op_geq rfl rfl ?_)
        | refine rl_step (by decide) (op_eql rfl rfl ?_)
        | refine rl_step (by decide) (op_neq rfl rfl ?_)
        | refine rl_step (by decide) (op_not rfl ?_)
        | refine rl_step (by decide) (op_min rfl rfl ?_)
        | refine rl_step (by decide) (op_max rfl rfl ?_)
        | refine rl_step (by decide) (op_extract rfl rfl ?_)
        | refine rl_step (by decide) (op_add rfl rfl (by omega) ?_)
        | refine rl_step (by decide) (op_sub rfl rfl (by omega) ?_)
        | refine rl_step (by decide) (op_neg rfl (by omega) ?_)))
    refine rl_step (by decide) (op_call ent51 rfl (line_c M1 w1 (a + j) (.slice none 0 0) [] hr.mb (SlOf.nil _ _ _) (by omega)) ?_)
    rintro u w2 ⟨hbel, hu⟩
    have hs1 : UpM M1 w1 M1 w2 := UpM.of_below hbel
    replace hs := hs.mono hs1.x
    replace hr := hr.up hs1
    replace hg := hg.up hs1
    refine rl_step (by decide) (op_buildSlice (E := eLine) (n := 1) (parts := [(0, .tmp 15)]) (vs := [u]) (l := [⟨a + j, a + j + 1, [], []⟩]) uL teL hr rfl rfl ⟨hu, trivial⟩ rfl ⟨Nat.le_of_ble_eq_true rfl, Nat.le_of_ble_eq_true rfl⟩ ?_)
    intro u2 w3 hu2 _ hbel2
    have hs2 : UpM M1 w2 M1 w3 := UpM.of_below hbel2
    replace hs := hs.mono hs2.x
    replace hr := hr.up hs2
    replace hg := hg.up hs2
    refine rl_step (by decide) (op_append (E := eLine) (tag := 5) uL teL rfl rfl hr hs hg hu2 (by rw [linesM_len]; show (j + 1) * 64 ≤ _; omega) ?_)
    intro v2 w4 M2 hs3 hg3 hst
    replace hr := hr.st hst
    (repeat (first
        | refine run_seq ?_
        | refine run_region_l ?_
        | refine rl_nil ?_
        | refine rl_step (by decide) (op_move rfl ?_)
        | refine rl_step (by decide) (op_assign rfl ?_)
        | refine run_block ?_
        | refine run_inBlock ?_
        | refine run_exit rfl ?_
        | refine run_skip ?_
        | refine run_label ?_
        | refine run_true rfl ?_
        | refine run_false rfl ?_
        | refine rl_yes rfl rfl ?_
        | refine rl_no rfl rfl rfl (by decide) ?_
        | refine rl_step (by decide) (op_pick_t rfl rfl ?_)
        | refine rl_step (by decide) (op_pick_f rfl rfl ?_)
        | refine rl_step (by decide) (op_lss rfl rfl ?_)
        | refine rl_step (by decide) (op_leq rfl rfl ?_)
        | refine rl_step (by decide) (op_gtr rfl rfl ?_)
        | refine rl_step (by decide) (op_geq rfl rfl ?_)
        | refine rl_step (by decide) (op_eql rfl rfl ?_)
        | refine rl_step (by decide) (op_neq rfl rfl ?_)
        | refine rl_step (by decide) (op_not rfl ?_)
        | refine rl_step (by decide) (op_min rfl rfl ?_)
        | refine rl_step (by decide) (op_max rfl rfl ?_)
        | refine rl_step (by decide) (op_extract rfl rfl ?_)
        | refine rl_step (by decide) (op_add rfl rfl (by omega) ?_)
        | refine rl_step (by decide) (op_sub rfl rfl (by omega) ?_)
        | refine rl_step (by decide) (op_neg rfl (by omega) ?_)))
    refine (ih (j + 1, M2, v2) w4 ⟨by omega, hr, hs3, hg3⟩ (by simp only; omega)).sub ?_
    refine ⟨rfl, rfl, ?_, trivial⟩
    simp [look, Int.add_assoc]
  · (repeat (first
        | refine run_seq ?_
        | refine run_region_l ?_
        | refine rl_nil ?_
        | refine rl_step (by decide) (op_move rfl ?_)
        | refine rl_step (by decide) (op_assign rfl ?_)
        | refine run_block ?_
        | refine run_inBlock ?_
        | refine run_exit rfl ?_
        | refine run_skip ?_
        | refine run_label ?_
        | refine run_true rfl ?_
        | refine run_false rfl ?_
        | refine rl_yes rfl rfl ?_
        | refine rl_no rfl rfl rfl (by decide) ?_
        | refine rl_step (by decide) (op_pick_t rfl rfl ?_)
        | refine rl_step (by decide) (op_pick_f rfl rfl ?_)
        | refine rl_step (by decide) (op_lss rfl rfl ?_)
        | refine rl_step (by decide) (op_leq rfl rfl ?_)
        | refine rl_step (by decide) (op_gtr rfl rfl ?_)
        | refine rl_step (by decide) (op_geq rfl rfl ?_)
        | refine rl_step (by decide) (op_eql rfl rfl ?_)
        | refine rl_step (by decide) (op_neq rfl rfl ?_)
        | refine rl_step (by decide) (op_not rfl ?_)
        | refine rl_step (by decide) (op_min rfl rfl ?_)
        | refine rl_step (by decide) (op_max rfl rfl ?_)
        | refine rl_step (by decide) (op_extract rfl rfl ?_)
        | refine rl_step (by decide) (op_add rfl rfl (by omega) ?_)
        | refine rl_step (by decide) (op_sub rfl rfl (by omega) ?_)
        | refine rl_step (by decide) (op_neg rfl (by omega) ?_)))
    refine run_ret1 Try.func52 rfl rfl ?_
    rw [show j = k by omega] at hs
    exact ⟨hr.bel, hs.mono hr.fin⟩

/-- A page with lines of given numbers has a given shape. -/
theorem shape_c (M : Mut) (w : World) (v : Value) (p : Pg) (a b c d : Int) (hm : MB M w) (hv : ePg.V M w v p) (ha : 0 ≤ a ∧ a ≤ 1000) (hb : 0 ≤ b ∧ b ≤ 1000) (hc : 0 ≤ c ∧ c ≤ 1000) (hd : 0 ≤ d ∧ d ≤ 1000)
    (h1 : (p.body.length : Int) = b - a + 1) (h2 : (p.notes.length : Int) = d - c + 1) (h3 : p.body.map (·.frm) = (List.range p.body.length).map fun (i : Nat) => a + (i : Int)) (h4 : p.notes.map (·.frm) = (List.range p.notes.length).map fun (i : Nat) => c + (i : Int)) :
    CallsV Try.prog 53 [v, .int .i64 a, .int .i64 b, .int .i64 c, .int .i64 d] w (fun u w' => u = .bool true ∧ Below w.heap.size w w') := by
  obtain ⟨vb, vn, rfl, _, hsb, hsn⟩ := ePg_V.1 hv
  have hr := Rn.refl hm
  refine callsV_of_run Try.func53 rfl Try.ntmps53 (Nat.le_of_ble_eq_true rfl) ?_
  (repeat (first
      | refine run_seq ?_
      | refine run_region_l ?_
      | refine rl_nil ?_
      | refine rl_step (by decide) (op_move rfl ?_)
      | refine rl_step (by decide) (op_assign rfl ?_)
      | refine run_block ?_
      | refine run_inBlock ?_
      | refine run_exit rfl ?_
      | refine run_skip ?_
      | refine run_label ?_
      | refine run_true rfl ?_
      | refine run_false rfl ?_
      | refine rl_yes rfl rfl ?_
      | refine rl_no rfl rfl rfl (by decide) ?_
      | refine rl_step (by decide) (op_pick_t rfl rfl ?_)
      | refine rl_step (by decide) (op_pick_f rfl rfl ?_)
      | refine rl_step (by decide) (op_lss rfl rfl ?_)
      | refine rl_step (by decide) (op_leq rfl rfl ?_)
      | refine rl_step (by decide) (op_gtr rfl rfl ?_)
      | refine rl_step (by decide) (op_geq rfl rfl ?_)
      | refine rl_step (by decide) (op_eql rfl rfl ?_)
      | refine rl_step (by decide) (op_neq rfl rfl ?_)
      | refine rl_step (by decide) (op_not rfl ?_)
      | refine rl_step (by decide) (op_min rfl rfl ?_)
      | refine rl_step (by decide) (op_max rfl rfl ?_)
      | refine rl_step (by decide) (op_extract rfl rfl ?_)
      | refine rl_step (by decide) (op_add rfl rfl (by omega) ?_)
      | refine rl_step (by decide) (op_sub rfl rfl (by omega) ?_)
      | refine rl_step (by decide) (op_neg rfl (by omega) ?_)))
  refine rl_step (by decide) (op_box (cs := [.int .i64 p.num, .int .i64 p.suf, .int .i64 p.entry, .int .i64 p.version, vb, vn]) 1 hr rfl rfl ?_)
  intro bp w1 M1 hB hbox hs
  replace hsb := hsb.mono hs.x
  replace hsn := hsn.mono hs.x
  replace hr := hr.up hs
  (repeat (first
      | refine run_seq ?_
      | refine run_region_l ?_
      | refine rl_nil ?_
      | refine rl_step (by decide) (op_move rfl ?_)
      | refine rl_step (by decide) (op_assign rfl ?_)
      | refine run_block ?_
      | refine run_inBlock ?_
      | refine run_exit rfl ?_
      | refine run_skip ?_
      | refine run_label ?_
      | refine run_true rfl ?_
      | refine run_false rfl ?_
      | refine rl_yes rfl rfl ?_
      | refine rl_no rfl rfl rfl (by decide) ?_
      | refine rl_step (by decide) (op_pick_t rfl rfl ?_)
      | refine rl_step (by decide) (op_pick_f rfl rfl ?_)
      | refine rl_step (by decide) (op_lss rfl rfl ?_)
      | refine rl_step (by decide) (op_leq rfl rfl ?_)
      | refine rl_step (by decide) (op_gtr rfl rfl ?_)
      | refine rl_step (by decide) (op_geq rfl rfl ?_)
      | refine rl_step (by decide) (op_eql rfl rfl ?_)
      | refine rl_step (by decide) (op_neq rfl rfl ?_)
      | refine rl_step (by decide) (op_not rfl ?_)
      | refine rl_step (by decide) (op_min rfl rfl ?_)
      | refine rl_step (by decide) (op_max rfl rfl ?_)
      | refine rl_step (by decide) (op_extract rfl rfl ?_)
      | refine rl_step (by decide) (op_add rfl rfl (by omega) ?_)
      | refine rl_step (by decide) (op_sub rfl rfl (by omega) ?_)
      | refine rl_step (by decide) (op_neg rfl (by omega) ?_)))
  refine rl_step (by decide) (op_fieldBox fdP3 rfl ?_)
  refine rl_step (by decide) (op_load1 tdSL rfl hbox rfl ?_)
  refine rl_step (by decide) (op_len uL rfl hsb ?_)
  (repeat (first
      | refine run_seq ?_
      | refine run_region_l ?_
      | refine rl_nil ?_
      | refine rl_step (by decide) (op_move rfl ?_)
      | refine rl_step (by decide) (op_assign rfl ?_)
      | refine run_block ?_
      | refine run_inBlock ?_
      | refine run_exit rfl ?_
      | refine run_skip ?_
      | refine run_label ?_
      | refine run_true rfl ?_
      | refine run_false rfl ?_
      | refine rl_yes rfl rfl ?_
      | refine rl_no rfl rfl rfl (by decide) ?_
      | refine rl_step (by decide) (op_pick_t rfl rfl ?_)
      | refine rl_step (by decide) (op_pick_f rfl rfl ?_)
      | refine rl_step (by decide) (op_lss rfl rfl ?_)
      | refine rl_step (by decide) (op_leq rfl rfl ?_)
      | refine rl_step (by decide) (op_gtr rfl rfl ?_)
      | refine rl_step (by decide) (op_geq rfl rfl ?_)
      | refine rl_step (by decide) (op_eql rfl rfl ?_)
      | refine rl_step (by decide) (op_neq rfl rfl ?_)
      | refine rl_step (by decide) (op_not rfl ?_)
      | refine rl_step (by decide) (op_min rfl rfl ?_)
      | refine rl_step (by decide) (op_max rfl rfl ?_)
      | refine rl_step (by decide) (op_extract rfl rfl ?_)
      | refine rl_step (by decide) (op_add rfl rfl (by omega) ?_)
      | refine rl_step (by decide) (op_sub rfl rfl (by omega) ?_)
      | refine rl_step (by decide) (op_neg rfl (by omega) ?_)))
  refine rl_part 21 rfl (fun h => absurd h1 h) (fun _ => ?_)
  (repeat (first
      | refine run_seq ?_
      | refine run_region_l ?_
      | refine rl_nil ?_
      | refine rl_step (by decide) (op_move rfl ?_)
      | refine rl_step (by decide) (op_assign rfl ?_)
      | refine run_block ?_
      | refine run_inBlock ?_
      | refine run_exit rfl ?_
      | refine run_skip ?_
      | refine run_label ?_
      | refine run_true rfl ?_
      | refine run_false rfl ?_
      | refine rl_yes rfl rfl ?_
      | refine rl_no rfl rfl rfl (by decide) ?_
      | refine rl_step (by decide) (op_pick_t rfl rfl ?_)
      | refine rl_step (by decide) (op_pick_f rfl rfl ?_)
      | refine rl_step (by decide) (op_lss rfl rfl ?_)
      | refine rl_step (by decide) (op_leq rfl rfl ?_)
      | refine rl_step (by decide) (op_gtr rfl rfl ?_)
      | refine rl_step (by decide) (op_geq rfl rfl ?_)
      | refine rl_step (by decide) (op_eql rfl rfl ?_)
      | refine rl_step (by decide) (op_neq rfl rfl ?_)
      | refine rl_step (by decide) (op_not rfl ?_)
      | refine rl_step (by decide) (op_min rfl rfl ?_)
      | refine rl_step (by decide) (op_max rfl rfl ?_)
      | refine rl_step (by decide) (op_extract rfl rfl ?_)
      | refine rl_step (by decide) (op_add rfl rfl (by omega) ?_)
      | refine rl_step (by decide) (op_sub rfl rfl (by omega) ?_)
      | refine rl_step (by decide) (op_neg rfl (by omega) ?_)))
  refine rl_step (by decide) (op_fieldBox fdP4 rfl ?_)
  (repeat (first
      | refine run_seq ?_
      | refine run_region_l ?_
      | refine rl_nil ?_
      | refine rl_step (by decide) (op_move rfl ?_)
      | refine rl_step (by decide) (op_assign rfl ?_)
      | refine run_block ?_
      | refine run_inBlock ?_
      | refine run_exit rfl ?_
      | refine run_skip ?_
      | refine run_label ?_
      | refine run_true rfl ?_
      | refine run_false rfl ?_
      | refine rl_yes rfl rfl ?_
      | refine rl_no rfl rfl rfl (by decide) ?_
      | refine rl_step (by decide) (op_pick_t rfl rfl ?_)
      | refine rl_step (by decide) (op_pick_f rfl rfl ?_)
      | refine rl_step (by decide) (op_lss rfl rfl ?_)
      | refine rl_step (by decide) (op_leq rfl rfl ?_)
      | refine rl_step (by decide) (op_gtr rfl rfl ?_)
      | refine rl_step (by decide) (op_geq rfl rfl ?_)
      | refine rl_step (by decide) (op_eql rfl rfl ?_)
      | refine rl_step (by decide) (op_neq rfl rfl ?_)
      | refine rl_step (by decide) (op_not rfl ?_)
      | refine rl_step (by decide) (op_min rfl rfl ?_)
      | refine rl_step (by decide) (op_max rfl rfl ?_)
      | refine rl_step (by decide) (op_extract rfl rfl ?_)
      | refine rl_step (by decide) (op_add rfl rfl (by omega) ?_)
      | refine rl_step (by decide) (op_sub rfl rfl (by omega) ?_)
      | refine rl_step (by decide) (op_neg rfl (by omega) ?_)))
  refine rl_step (by decide) (op_load1 tdSL rfl hbox rfl ?_)
  (repeat (first
      | refine run_seq ?_
      | refine run_region_l ?_
      | refine rl_nil ?_
      | refine rl_step (by decide) (op_move rfl ?_)
      | refine rl_step (by decide) (op_assign rfl ?_)
      | refine run_block ?_
      | refine run_inBlock ?_
      | refine run_exit rfl ?_
      | refine run_skip ?_
      | refine run_label ?_
      | refine run_true rfl ?_
      | refine run_false rfl ?_
      | refine rl_yes rfl rfl ?_
      | refine rl_no rfl rfl rfl (by decide) ?_
      | refine rl_step (by decide) (op_pick_t rfl rfl ?_)
      | refine rl_step (by decide) (op_pick_f rfl rfl ?_)
      | refine rl_step (by decide) (op_lss rfl rfl ?_)
      | refine rl_step (by decide) (op_leq rfl rfl ?_)
      | refine rl_step (by decide) (op_gtr rfl rfl ?_)
      | refine rl_step (by decide) (op_geq rfl rfl ?_)
      | refine rl_step (by decide) (op_eql rfl rfl ?_)
      | refine rl_step (by decide) (op_neq rfl rfl ?_)
      | refine rl_step (by decide) (op_not rfl ?_)
      | refine rl_step (by decide) (op_min rfl rfl ?_)
      | refine rl_step (by decide) (op_max rfl rfl ?_)
      | refine rl_step (by decide) (op_extract rfl rfl ?_)
      | refine rl_step (by decide) (op_add rfl rfl (by omega) ?_)
      | refine rl_step (by decide) (op_sub rfl rfl (by omega) ?_)
      | refine rl_step (by decide) (op_neg rfl (by omega) ?_)))
  refine rl_step (by decide) (op_len uL rfl hsn ?_)
  (repeat (first
      | refine run_seq ?_
      | refine run_region_l ?_
      | refine rl_nil ?_
      | refine rl_step (by decide) (op_move rfl ?_)
      | refine rl_step (by decide) (op_assign rfl ?_)
      | refine run_block ?_
      | refine run_inBlock ?_
      | refine run_exit rfl ?_
      | refine run_skip ?_
      | refine run_label ?_
      | refine run_true rfl ?_
      | refine run_false rfl ?_
      | refine rl_yes rfl rfl ?_
      | refine rl_no rfl rfl rfl (by decide) ?_
      | refine rl_step (by decide) (op_pick_t rfl rfl ?_)
      | refine rl_step (by decide) (op_pick_f rfl rfl ?_)
      | refine rl_step (by decide) (op_lss rfl rfl ?_)
      | refine rl_step (by decide) (op_leq rfl rfl ?_)
      | refine rl_step (by decide) (op_gtr rfl rfl ?_)
      | refine rl_step (by decide) (op_geq rfl rfl ?_)
      | refine rl_step (by decide) (op_eql rfl rfl ?_)
      | refine rl_step (by decide) (op_neq rfl rfl ?_)
      | refine rl_step (by decide) (op_not rfl ?_)
      | refine rl_step (by decide) (op_min rfl rfl ?_)
      | refine rl_step (by decide) (op_max rfl rfl ?_)
      | refine rl_step (by decide) (op_extract rfl rfl ?_)
      | refine rl_step (by decide) (op_add rfl rfl (by omega) ?_)
      | refine rl_step (by decide) (op_sub rfl rfl (by omega) ?_)
      | refine rl_step (by decide) (op_neg rfl (by omega) ?_)))
  refine run_if rfl (fun h => absurd h2 h) (fun _ => ?_)
  (repeat (first
      | refine run_seq ?_
      | refine run_region_l ?_
      | refine rl_nil ?_
      | refine rl_step (by decide) (op_move rfl ?_)
      | refine rl_step (by decide) (op_assign rfl ?_)
      | refine run_block ?_
      | refine run_inBlock ?_
      | refine run_exit rfl ?_
      | refine run_skip ?_
      | refine run_label ?_
      | refine run_true rfl ?_
      | refine run_false rfl ?_
      | refine rl_yes rfl rfl ?_
      | refine rl_no rfl rfl rfl (by decide) ?_
      | refine rl_step (by decide) (op_pick_t rfl rfl ?_)
      | refine rl_step (by decide) (op_pick_f rfl rfl ?_)
      | refine rl_step (by decide) (op_lss rfl rfl ?_)
      | refine rl_step (by decide) (op_leq rfl rfl ?_)
      | refine rl_step (by decide) (op_gtr rfl rfl ?_)
      | refine rl_step (by decide) (op_geq rfl rfl ?_)
      | refine rl_step (by decide) (op_eql rfl rfl ?_)
      | refine rl_step (by decide) (op_neq rfl rfl ?_)
      | refine rl_step (by decide) (op_not rfl ?_)
      | refine rl_step (by decide) (op_min rfl rfl ?_)
      | refine rl_step (by decide) (op_max rfl rfl ?_)
      | refine rl_step (by decide) (op_extract rfl rfl ?_)
      | refine rl_step (by decide) (op_add rfl rfl (by omega) ?_)
      | refine rl_step (by decide) (op_sub rfl rfl (by omega) ?_)
      | refine rl_step (by decide) (op_neg rfl (by omega) ?_)))
  refine (run_loop (α := Nat) (fun x => [(1, .int .i64 a), (3, .int .i64 c), (5, .pointer (some ⟨bp, 0, none⟩)), (11, .int .i64 x)])
    (fun x w' => x ≤ p.body.length ∧ w' = w1) (fun x => p.body.length - x) 0 ⟨Nat.zero_le _, rfl⟩ ?_).sub (by repeat (first | exact trivial | refine ⟨rfl, ?_⟩))
  rintro i wA ⟨hi, rfl⟩ ih
  try simp only at ih
  try dsimp only
  (repeat (first
      | refine run_seq ?_
      | refine run_region_l ?_
      | refine rl_nil ?_
      | refine rl_step (by decide) (op_move rfl ?_)
      | refine rl_step (by decide) (op_assign rfl ?_)
      | refine run_block ?_
      | refine run_inBlock ?_
      | refine run_exit rfl ?_
      | refine run_skip ?_
      | refine run_label ?_
      | refine run_true rfl ?_
      | refine run_false rfl ?_
      | refine rl_yes rfl rfl ?_
      | refine rl_no rfl rfl rfl (by decide) ?_
      | refine rl_step (by decide) (op_pick_t rfl rfl ?_)
      | refine rl_step (by decide) (op_pick_f rfl rfl ?_)
      | refine rl_step (by decide) (op_lss rfl rfl ?_)
      | refine rl_step (by decide) (op_leq rfl rfl ?_)
      | refine rl_step (by decide) (op_gtr rfl rfl ?_)
      | refine rl_step (by decide) (op_geq rfl rfl ?_)
      | refine rl_step (by decide) (op_eql rfl rfl ?_)
      | refine rl_step (by decide) (op_neq rfl rfl ?_)
      | refine rl_step (by decide) (op_not rfl ?_)
      | refine rl_step (by decide) (op_min rfl rfl ?_)
      | refine rl_step (by decide) (op_max rfl rfl ?_)
      | refine rl_step (by decide) (op_extract rfl rfl ?_)
      | refine rl_step (by decide) (op_add rfl rfl (by omega) ?_)
      | refine rl_step (by decide) (op_sub rfl rfl (by omega) ?_)
      | refine rl_step (by decide) (op_neg rfl (by omega) ?_)))
  refine rl_step (by decide) (op_fieldBox fdP3 rfl ?_)
  refine rl_step (by decide) (op_load1 tdSL rfl hbox rfl ?_)
  refine rl_step (by decide) (op_len uL rfl hsb ?_)
  (repeat (first
      | refine run_seq ?_
      | refine run_region_l ?_
      | refine rl_nil ?_
      | refine rl_step (by decide) (op_move rfl ?_)
      | refine rl_step (by decide) (op_assign rfl ?_)
      | refine run_block ?_
      | refine run_inBlock ?_
      | refine run_exit rfl ?_
      | refine run_skip ?_
      | refine run_label ?_
      | refine run_true rfl ?_
      | refine run_false rfl ?_
      | refine rl_yes rfl rfl ?_
      | refine rl_no rfl rfl rfl (by decide) ?_
      | refine rl_step (by decide) (op_pick_t rfl rfl ?_)
      | refine rl_step (by decide) (op_pick_f rfl rfl ?_)
      | refine rl_step (by decide) (op_lss rfl rfl ?_)
      | refine rl_step (by decide) (op_leq rfl rfl ?_)
      | refine rl_step (by decide) (op_gtr rfl rfl ?_)
      | refine rl_step (by decide) (op_geq rfl rfl ?_)
      | refine rl_step (by decide) (op_eql rfl rfl ?_)
      | refine rl_step (by decide) (op_neq rfl rfl ?_)
      | refine rl_step (by decide) (op_not rfl ?_)
      | refine rl_step (by decide) (op_min rfl rfl ?_)
      | refine rl_step (by decide) (op_max rfl rfl ?_)
      | refine rl_step (by decide) (op_extract rfl rfl ?_)
      | refine rl_step (by decide) (op_add rfl rfl (by omega) ?_)
      | refine rl_step (by decide) (op_sub rfl rfl (by omega) ?_)
      | refine rl_step (by decide) (op_neg rfl (by omega) ?_)))
  refine run_if rfl (fun hlt => ?_) (fun hlt => ?_)
  · have hlt' : i < p.body.length := by omega
    (repeat (first
        | refine run_seq ?_
        | refine run_region_l ?_
        | refine rl_nil ?_
        | refine rl_step (by decide) (op_move rfl ?_)
        | refine rl_step (by decide) (op_assign rfl ?_)
        | refine run_block ?_
        | refine run_inBlock ?_
        | refine run_exit rfl ?_
        | refine run_skip ?_
        | refine run_label ?_
        | refine run_true rfl ?_
        | refine run_false rfl ?_
        | refine rl_yes rfl rfl ?_
        | refine rl_no rfl rfl rfl (by decide) ?_
        | refine rl_step (by decide) (op_pick_t rfl rfl ?_)
        | refine rl_step (by decide) (op_pick_f rfl rfl ?_)
        | refine rl_step (by decide) (op_lss rfl rfl ?_)
        | refine rl_step (by decide) (op_leq rfl rfl ?_)
        | refine rl_step (by decide) (op_gtr rfl rfl ?_)
        | refine rl_step (by decide) (op_geq rfl rfl ?_)
        | refine rl_step (by decide) (op_eql rfl rfl ?_)
        | refine rl_step (by decide) (op_neq rfl rfl ?_)
        | refine rl_step (by decide) (op_not rfl ?_)
        | refine rl_step (by decide) (op_min rfl rfl ?_)
        | refine rl_step (by decide) (op_max rfl rfl ?_)
        | refine rl_step (by decide) (op_extract rfl rfl ?_)
        | refine rl_step (by decide) (op_add rfl rfl (by omega) ?_)
        | refine rl_step (by decide) (op_sub rfl rfl (by omega) ?_)
        | refine rl_step (by decide) (op_neg rfl (by omega) ?_)))
    refine rl_step (by decide) (op_fieldBox fdP3 rfl ?_)
    refine rl_step (by decide) (op_load1 tdSL rfl hbox rfl ?_)
    (repeat (first
        | refine run_seq ?_
        | refine run_region_l ?_
        | refine rl_nil ?_
        | refine rl_step (by decide) (op_move rfl ?_)
        | refine rl_step (by decide) (op_assign rfl ?_)
        | refine run_block ?_
        | refine run_inBlock ?_
        | refine run_exit rfl ?_
        | refine run_skip ?_
        | refine run_label ?_
        | refine run_true rfl ?_
        | refine run_false rfl ?_
        | refine rl_yes rfl rfl ?_
        | refine rl_no rfl rfl rfl (by decide) ?_
        | refine rl_step (by decide) (op_pick_t rfl rfl ?_)
        | refine rl_step (by decide) (op_pick_f rfl rfl ?_)
        | refine rl_step (by decide) (op_lss rfl rfl ?_)
        | refine rl_step (by decide) (op_leq rfl rfl ?_)
        | refine rl_step (by decide) (op_gtr rfl rfl ?_)
        | refine rl_step (by decide) (op_geq rfl rfl ?_)
        | refine rl_step (by decide) (op_eql rfl rfl ?_)
        | refine rl_step (by decide) (op_neq rfl rfl ?_)
        | refine rl_step (by decide) (op_not rfl ?_)
        | refine rl_step (by decide) (op_min rfl rfl ?_)
        | refine rl_step (by decide) (op_max rfl rfl ?_)
        | refine rl_step (by decide) (op_extract rfl rfl ?_)
        | refine rl_step (by decide) (op_add rfl rfl (by omega) ?_)
        | refine rl_step (by decide) (op_sub rfl rfl (by omega) ?_)
        | refine rl_step (by decide) (op_neg rfl (by omega) ?_)))
    refine rl_step (by decide) (op_indexAddr uL teL rfl rfl hsb (by omega) ?_)
    intro ad _ he
    refine rl_step (by decide) (op_fieldAddr fdL0 rfl ?_)
    refine rl_step (by decide) (op_load teI rfl he.line.1 ?_)
    intro u hu
    obtain ⟨rfl, _⟩ := eI_V.1 hu
    (repeat (first
        | refine run_seq ?_
        | refine run_region_l ?_
        | refine rl_nil ?_
        | refine rl_step (by decide) (op_move rfl ?_)
        | refine rl_step (by decide) (op_assign rfl ?_)
        | refine run_block ?_
        | refine run_inBlock ?_
        | refine run_exit rfl ?_
        | refine run_skip ?_
        | refine run_label ?_
        | refine run_true rfl ?_
        | refine run_false rfl ?_
        | refine rl_yes rfl rfl ?_
        | refine rl_no rfl rfl rfl (by decide) ?_
        | refine rl_step (by decide) (op_pick_t rfl rfl ?_)
        | refine rl_step (by decide) (op_pick_f rfl rfl ?_)
        | refine rl_step (by decide) (op_lss rfl rfl ?_)
        | refine rl_step (by decide) (op_leq rfl rfl ?_)
        | refine rl_step (by decide) (op_gtr rfl rfl ?_)
        | refine rl_step (by decide) (op_geq rfl rfl ?_)
        | refine rl_step (by decide) (op_eql rfl rfl ?_)
        | refine rl_step (by decide) (op_neq rfl rfl ?_)
        | refine rl_step (by decide) (op_not rfl ?_)
        | refine rl_step (by decide) (op_min rfl rfl ?_)
        | refine rl_step (by decide) (op_max rfl rfl ?_)
        | refine rl_step (by decide) (op_extract rfl rfl ?_)
        | refine rl_step (by decide) (op_add rfl rfl (by omega) ?_)
        | refine rl_step (by decide) (op_sub rfl rfl (by omega) ?_)
        | refine rl_step (by decide) (op_neg rfl (by omega) ?_)))
    have hf : p.body[i].frm = a + i := by
      have := congrArg (fun l : List Int => l[i]?) h3
      simp [hlt'] at this
      exact this
    refine run_if rfl (fun h => absurd (by simpa using hf) h) (fun _ => ?_)
    (repeat (first
        | refine run_seq ?_
        | refine run_region_l ?_
        | refine rl_nil ?_
        | refine rl_step (by decide) (op_move rfl ?_)
        | refine rl_step (by decide) (op_assign rfl ?_)
        | refine run_block ?_
        | refine run_inBlock ?_
        | refine run_exit rfl ?_
        | refine run_skip ?_
        | refine run_label ?_
        | refine run_true rfl ?_
        | refine run_false rfl ?_
        | refine rl_yes rfl rfl ?_
        | refine rl_no rfl rfl rfl (by decide) ?_
        | refine rl_step (by decide) (op_pick_t rfl rfl ?_)
        | refine rl_step (by decide) (op_pick_f rfl rfl ?_)
        | refine rl_step (by decide) (op_lss rfl rfl ?_)
        | refine rl_step (by decide) (op_leq rfl rfl ?_)
        | refine rl_step (by decide) (op_gtr rfl rfl ?_)
        | refine rl_step (by decide) (op_geq rfl rfl ?_)
        | refine rl_step (by decide) (op_eql rfl rfl ?_)
        | refine rl_step (by decide) (op_neq rfl rfl ?_)
        | refine rl_step (by decide) (op_not rfl ?_)
        | refine rl_step (by decide) (op_min rfl rfl ?_)
        | refine rl_step (by decide) (op_max rfl rfl ?_)
        | refine rl_step (by decide) (op_extract rfl rfl ?_)
        | refine rl_step (by decide) (op_add rfl rfl (by omega) ?_)
        | refine rl_step (by decide) (op_sub rfl rfl (by omega) ?_)
        | refine rl_step (by decide) (op_neg rfl (by omega) ?_)))
    exact (ih (i + 1) _ ⟨by omega, rfl⟩ (by omega)).sub (by repeat (first | exact trivial | refine ⟨rfl, ?_⟩))
  (repeat (first
      | refine run_seq ?_
      | refine run_region_l ?_
      | refine rl_nil ?_
      | refine rl_step (by decide) (op_move rfl ?_)
      | refine rl_step (by decide) (op_assign rfl ?_)
      | refine run_block ?_
      | refine run_inBlock ?_
      | refine run_exit rfl ?_
      | refine run_skip ?_
      | refine run_label ?_
      | refine run_true rfl ?_
      | refine run_false rfl ?_
      | refine rl_yes rfl rfl ?_
      | refine rl_no rfl rfl rfl (by decide) ?_
      | refine rl_step (by decide) (op_pick_t rfl rfl ?_)
      | refine rl_step (by decide) (op_pick_f rfl rfl ?_)
      | refine rl_step (by decide) (op_lss rfl rfl ?_)
      | refine rl_step (by decide) (op_leq rfl rfl ?_)
      | refine rl_step (by decide) (op_gtr rfl rfl ?_)
      | refine rl_step (by decide) (op_geq rfl rfl ?_)
      | refine rl_step (by decide) (op_eql rfl rfl ?_)
      | refine rl_step (by decide) (op_neq rfl rfl ?_)
      | refine rl_step (by decide) (op_not rfl ?_)
      | refine rl_step (by decide) (op_min rfl rfl ?_)
      | refine rl_step (by decide) (op_max rfl rfl ?_)
      | refine rl_step (by decide) (op_extract rfl rfl ?_)
      | refine rl_step (by decide) (op_add rfl rfl (by omega) ?_)
      | refine rl_step (by decide) (op_sub rfl rfl (by omega) ?_)
      | refine rl_step (by decide) (op_neg rfl (by omega) ?_)))
  refine (run_loop (α := Nat) (fun x => [(3, .int .i64 c), (5, .pointer (some ⟨bp, 0, none⟩)), (12, .int .i64 x)])
    (fun x w' => x ≤ p.notes.length ∧ w' = wA) (fun x => p.notes.length - x) 0 ⟨Nat.zero_le _, rfl⟩ ?_).sub (by repeat (first | exact trivial | refine ⟨rfl, ?_⟩))
  clear ih hlt hi
  rintro i _ ⟨hi, rfl⟩ ih
  try simp only at ih
  try dsimp only
  (repeat (first
      | refine run_seq ?_
      | refine run_region_l ?_
      | refine rl_nil ?_
      | refine rl_step (by decide) (op_move rfl ?_)
      | refine rl_step (by decide) (op_assign rfl ?_)
      | refine run_block ?_
      | refine run_inBlock ?_
      | refine run_exit rfl ?_
      | refine run_skip ?_
      | refine run_label ?_
      | refine run_true rfl ?_
      | refine run_false rfl ?_
      | refine rl_yes rfl rfl ?_
      | refine rl_no rfl rfl rfl (by decide) ?_
      | refine rl_step (by decide) (op_pick_t rfl rfl ?_)
      | refine rl_step (by decide) (op_pick_f rfl rfl ?_)
      | refine rl_step (by decide) (op_lss rfl rfl ?_)
      | refine rl_step (by decide) (op_leq rfl rfl ?_)
      | refine rl_step (by decide) (op_gtr rfl rfl ?_)
      | refine rl_step (by decide) (op_geq rfl rfl ?_)
      | refine rl_step (by decide) (op_eql rfl rfl ?_)
      | refine rl_step (by decide) (op_neq rfl rfl ?_)
      | refine rl_step (by decide) (op_not rfl ?_)
      | refine rl_step (by decide) (op_min rfl rfl ?_)
      | refine rl_step (by decide) (op_max rfl rfl ?_)
      | refine rl_step (by decide) (op_extract rfl rfl ?_)
      | refine rl_step (by decide) (op_add rfl rfl (by omega) ?_)
      | refine rl_step (by decide) (op_sub rfl rfl (by omega) ?_)
      | refine rl_step (by decide) (op_neg rfl (by omega) ?_)))
  refine rl_step (by decide) (op_fieldBox fdP4 rfl ?_)
  refine rl_step (by decide) (op_load1 tdSL rfl hbox rfl ?_)
  refine rl_step (by decide) (op_len uL rfl hsn ?_)
  (repeat (first
      | refine run_seq ?_
      | refine run_region_l ?_
      | refine rl_nil ?_
      | refine rl_step (by decide) (op_move rfl ?_)
      | refine rl_step (by decide) (op_assign rfl ?_)
      | refine run_block ?_
      | refine run_inBlock ?_
      | refine run_exit rfl ?_
      | refine run_skip ?_
      | refine run_label ?_
      | refine run_true rfl ?_
      | refine run_false rfl ?_
      | refine rl_yes rfl rfl ?_
      | refine rl_no rfl rfl rfl (by decide) ?_
      | refine rl_step (by decide) (op_pick_t rfl rfl ?_)
      | refine rl_step (by decide) (op_pick_f rfl rfl ?_)
      | refine rl_step (by decide) (op_lss rfl rfl ?_)
      | refine rl_step (by decide) (op_leq rfl rfl ?_)
      | refine rl_step (by decide) (op_gtr rfl rfl ?_)
      | refine rl_step (by decide) (op_geq rfl rfl ?_)
      | refine rl_step (by decide) (op_eql rfl rfl ?_)
      | refine rl_step (by decide) (op_neq rfl rfl ?_)
      | refine rl_step (by decide) (op_not rfl ?_)
      | refine rl_step (by decide) (op_min rfl rfl ?_)
      | refine rl_step (by decide) (op_max rfl rfl ?_)
      | refine rl_step (by decide) (op_extract rfl rfl ?_)
      | refine rl_step (by decide) (op_add rfl rfl (by omega) ?_)
      | refine rl_step (by decide) (op_sub rfl rfl (by omega) ?_)
      | refine rl_step (by decide) (op_neg rfl (by omega) ?_)))
  refine run_if rfl (fun hlt => ?_) (fun hlt => ?_)
  · have hlt' : i < p.notes.length := by omega
    (repeat (first
        | refine run_seq ?_
        | refine run_region_l ?_
        | refine rl_nil ?_
        | refine rl_step (by decide) (op_move rfl ?_)
        | refine rl_step (by decide) (op_assign rfl ?_)
        | refine run_block ?_
        | refine run_inBlock ?_
        | refine run_exit rfl ?_
        | refine run_skip ?_
        | refine run_label ?_
        | refine run_true rfl ?_
        | refine run_false rfl ?_
        | refine rl_yes rfl rfl ?_
        | refine rl_no rfl rfl rfl (by decide) ?_
        | refine rl_step (by decide) (op_pick_t rfl rfl ?_)
        | refine rl_step (by decide) (op_pick_f rfl rfl ?_)
        | refine rl_step (by decide) (op_lss rfl rfl ?_)
        | refine rl_step (by decide) (op_leq rfl rfl ?_)
        | refine rl_step (by decide) (op_gtr rfl rfl ?_)
        | refine rl_step (by decide) (op_geq rfl rfl ?_)
        | refine rl_step (by decide) (op_eql rfl rfl ?_)
        | refine rl_step (by decide) (op_neq rfl rfl ?_)
        | refine rl_step (by decide) (op_not rfl ?_)
        | refine rl_step (by decide) (op_min rfl rfl ?_)
        | refine rl_step (by decide) (op_max rfl rfl ?_)
        | refine rl_step (by decide) (op_extract rfl rfl ?_)
        | refine rl_step (by decide) (op_add rfl rfl (by omega) ?_)
        | refine rl_step (by decide) (op_sub rfl rfl (by omega) ?_)
        | refine rl_step (by decide) (op_neg rfl (by omega) ?_)))
    refine rl_step (by decide) (op_fieldBox fdP4 rfl ?_)
    refine rl_step (by decide) (op_load1 tdSL rfl hbox rfl ?_)
    (repeat (first
        | refine run_seq ?_
        | refine run_region_l ?_
        | refine rl_nil ?_
        | refine rl_step (by decide) (op_move rfl ?_)
        | refine rl_step (by decide) (op_assign rfl ?_)
        | refine run_block ?_
        | refine run_inBlock ?_
        | refine run_exit rfl ?_
        | refine run_skip ?_
        | refine run_label ?_
        | refine run_true rfl ?_
        | refine run_false rfl ?_
        | refine rl_yes rfl rfl ?_
        | refine rl_no rfl rfl rfl (by decide) ?_
        | refine rl_step (by decide) (op_pick_t rfl rfl ?_)
        | refine rl_step (by decide) (op_pick_f rfl rfl ?_)
        | refine rl_step (by decide) (op_lss rfl rfl ?_)
        | refine rl_step (by decide) (op_leq rfl rfl ?_)
        | refine rl_step (by decide) (op_gtr rfl rfl ?_)
        | refine rl_step (by decide) (op_geq rfl rfl ?_)
        | refine rl_step (by decide) (op_eql rfl rfl ?_)
        | refine rl_step (by decide) (op_neq rfl rfl ?_)
        | refine rl_step (by decide) (op_not rfl ?_)
        | refine rl_step (by decide) (op_min rfl rfl ?_)
        | refine rl_step (by decide) (op_max rfl rfl ?_)
        | refine rl_step (by decide) (op_extract rfl rfl ?_)
        | refine rl_step (by decide) (op_add rfl rfl (by omega) ?_)
        | refine rl_step (by decide) (op_sub rfl rfl (by omega) ?_)
        | refine rl_step (by decide) (op_neg rfl (by omega) ?_)))
    refine rl_step (by decide) (op_indexAddr uL teL rfl rfl hsn (by omega) ?_)
    intro ad _ he
    refine rl_step (by decide) (op_fieldAddr fdL0 rfl ?_)
    refine rl_step (by decide) (op_load teI rfl he.line.1 ?_)
    intro u hu
    obtain ⟨rfl, _⟩ := eI_V.1 hu
    (repeat (first
        | refine run_seq ?_
        | refine run_region_l ?_
        | refine rl_nil ?_
        | refine rl_step (by decide) (op_move rfl ?_)
        | refine rl_step (by decide) (op_assign rfl ?_)
        | refine run_block ?_
        | refine run_inBlock ?_
        | refine run_exit rfl ?_
        | refine run_skip ?_
        | refine run_label ?_
        | refine run_true rfl ?_
        | refine run_false rfl ?_
        | refine rl_yes rfl rfl ?_
        | refine rl_no rfl rfl rfl (by decide) ?_
        | refine rl_step (by decide) (op_pick_t rfl rfl ?_)
        | refine rl_step (by decide) (op_pick_f rfl rfl ?_)
        | refine rl_step (by decide) (op_lss rfl rfl ?_)
        | refine rl_step (by decide) (op_leq rfl rfl ?_)
        | refine rl_step (by decide) (op_gtr rfl rfl ?_)
        | refine rl_step (by decide) (op_geq rfl rfl ?_)
        | refine rl_step (by decide) (op_eql rfl rfl ?_)
        | refine rl_step (by decide) (op_neq rfl rfl ?_)
        | refine rl_step (by decide) (op_not rfl ?_)
        | refine rl_step (by decide) (op_min rfl rfl ?_)
        | refine rl_step (by decide) (op_max rfl rfl ?_)
        | refine rl_step (by decide) (op_extract rfl rfl ?_)
        | refine rl_step (by decide) (op_add rfl rfl (by omega) ?_)
        | refine rl_step (by decide) (op_sub rfl rfl (by omega) ?_)
        | refine rl_step (by decide) (op_neg rfl (by omega) ?_)))
    have hf : p.notes[i].frm = c + i := by
      have := congrArg (fun l : List Int => l[i]?) h4
      simp [hlt'] at this
      exact this
    refine run_if rfl (fun h => absurd (by simpa using hf) h) (fun _ => ?_)
    (repeat (first
        | refine run_seq ?_
        | refine run_region_l ?_
        | refine rl_nil ?_
        | refine rl_step (by decide) (op_move rfl ?_)
        | refine rl_step (by decide) (op_assign rfl ?_)
        | refine run_block ?_
        | refine run_inBlock ?_
        | refine run_exit rfl ?_
        | refine run_skip ?_
        | refine run_label ?_
        | refine run_true rfl ?_
        | refine run_false rfl ?_
        | refine rl_yes rfl rfl ?_
        | refine rl_no rfl rfl rfl (by decide) ?_
        | refine rl_step (by decide) (op_pick_t rfl rfl ?_)
        | refine rl_step (by decide) (op_pick_f rfl rfl ?_)
        | refine rl_step (by decide) (op_lss rfl rfl ?_)
        | refine rl_step (by decide) (op_leq rfl rfl ?_)
        | refine rl_step (by decide) (op_gtr rfl rfl ?_)
        | refine rl_step (by decide) (op_geq rfl rfl ?_)
        | refine rl_step (by decide) (op_eql rfl rfl ?_)
        | refine rl_step (by decide) (op_neq rfl rfl ?_)
        | refine rl_step (by decide) (op_not rfl ?_)
        | refine rl_step (by decide) (op_min rfl rfl ?_)
        | refine rl_step (by decide) (op_max rfl rfl ?_)
        | refine rl_step (by decide) (op_extract rfl rfl ?_)
        | refine rl_step (by decide) (op_add rfl rfl (by omega) ?_)
        | refine rl_step (by decide) (op_sub rfl rfl (by omega) ?_)
        | refine rl_step (by decide) (op_neg rfl (by omega) ?_)))
    exact (ih (i + 1) _ ⟨by omega, rfl⟩ (by omega)).sub (by repeat (first | exact trivial | refine ⟨rfl, ?_⟩))
  (repeat (first
      | refine run_seq ?_
      | refine run_region_l ?_
      | refine rl_nil ?_
      | refine rl_step (by decide) (op_move rfl ?_)
      | refine rl_step (by decide) (op_assign rfl ?_)
      | refine run_block ?_
      | refine run_inBlock ?_
      | refine run_exit rfl ?_
      | refine run_skip ?_
      | refine run_label ?_
      | refine run_true rfl ?_
      | refine run_false rfl ?_
      | refine rl_yes rfl rfl ?_
      | refine rl_no rfl rfl rfl (by decide) ?_
      | refine rl_step (by decide) (op_pick_t rfl rfl ?_)
      | refine rl_step (by decide) (op_pick_f rfl rfl ?_)
      | refine rl_step (by decide) (op_lss rfl rfl ?_)
      | refine rl_step (by decide) (op_leq rfl rfl ?_)
      | refine rl_step (by decide) (op_gtr rfl rfl ?_)
      | refine rl_step (by decide) (op_geq rfl rfl ?_)
      | refine rl_step (by decide) (op_eql rfl rfl ?_)
      | refine rl_step (by decide) (op_neq rfl rfl ?_)
      | refine rl_step (by decide) (op_not rfl ?_)
      | refine rl_step (by decide) (op_min rfl rfl ?_)
      | refine rl_step (by decide) (op_max rfl rfl ?_)
      | refine rl_step (by decide) (op_extract rfl rfl ?_)
      | refine rl_step (by decide) (op_add rfl rfl (by omega) ?_)
      | refine rl_step (by decide) (op_sub rfl rfl (by omega) ?_)
      | refine rl_step (by decide) (op_neg rfl (by omega) ?_)))
  refine run_ret1 Try.func53 rfl rfl ?_
  exact ⟨rfl, hr.bel⟩

end Go.Proofs.Ytocoinkhbjlbhaa
