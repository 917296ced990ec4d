/-
  What the functions of layer 26 and of its reference do: cost.
-/
import Derived.Test.YtocoinkhbjlbhaaT26b
namespace Go.Proofs.Ytocoinkhbjlbhaa
open Go Go.RowKit

theorem ordE_len {n : Int} : ∀ {l : List Int} {a : Int}, ordE n a l = true → (l.length : Int) ≤ n - a
  | [], a, h => by simp [ordE] at h; simp; omega
  | e :: r, a, h => by
    simp only [ordE, Bool.and_eq_true, decide_eq_true_eq] at h
    have := ordE_len h.2
    simp only [List.length_cons]
    omega

theorem seg_mem {w : List Int} {a b : Int} : ∀ x ∈ seg w a b, x ∈ w := fun _ hx => List.mem_of_mem_drop (List.mem_of_mem_take hx)
theorem seg_len {w : List Int} {a b : Int} : (seg w a b).length ≤ w.length := by
  unfold seg
  rw [List.length_take, List.length_drop]
  omega

theorem cost_eq {w ends : List Int} {m c e : Int} (h0 : chk26 w m = 0) (ho : ordE w.length 0 ends = true) (hc : (match costG w m 0 ends with | some c => (c, (0 : Int)) | none => (0, 9)) = (c, e)) : costM w m ends = (c, e) := by
  unfold costM
  rw [if_neg (by omega), if_pos ho]
  exact hc

set_option maxHeartbeats 1000000 in
theorem cost_f {w ends : List Int} {m : Int} : Fn Try.prog 34 [pSl eI w, pI m, pSl eI ends] (pT2 (pI (costM w m ends).1) (pI (costM w m ends).2)) := by
  refine fn_of ent34 Try.func34 rfl Try.ntmps34 rfl fun M0 w0 => ?_
  refine c_have 0 (fun h => i_len26 h) fun hl1 => ?_
  refine c_have 2 (fun h => i_len26 h) fun hl2 => ?_
  by_cases hchk : chk26 w m = 0
  case neg =>
    have e : costM w m ends = (0, chk26 w m) := by unfold costM; rw [if_pos hchk]
    rw [e]
    (repeat (first | refine c_seq ?_ | refine c_reg ?_ | refine c_rnil ?_ | refine c_block ?_ | refine c_inBlock ?_ | refine c_exit ?_ | refine c_skip ?_ | refine c_label ?_ | refine c_true ?_ | refine c_false ?_ | refine c_yes ?_ | refine c_no ?_ | refine c_op (by first | exact t_call (h := check_f) | exact t_moveG | exact t_move | exact t_moveO | exact t_assignG | exact t_assignO | exact t_assign | exact t_pickT | exact t_pickF | exact t_add | exact t_sub | exact t_neg | exact t_not | exact t_min | exact t_max | exact t_lssT | exact t_lssF | exact t_lss | exact t_leqT | exact t_leqF | exact t_leq | exact t_gtrT | exact t_gtrF | exact t_gtr | exact t_geqT | exact t_geqF | exact t_geq | exact t_eqlT | exact t_eqlF | exact t_eql | exact t_neqT | exact t_neqF | exact t_neq | exact t_ext0 | exact t_ext1 | exact t_ext30 | exact t_ext31 | exact t_ext32 | exact t_len | exact t_lenN | exact t_lenR | exact t_idxN | exact t_idx | exact t_load | exact t_fa | exact t_fv | exact t_bl | exact t_sliceG | exact t_sliceLHN | exact t_sliceLN | exact t_sliceHN | exact t_sliceLH | exact t_sliceL | exact t_sliceH | exact t_bs | exact t_quo | exact t_rem | exact t_boxP) ?_ | refine c_opW t_app ?_))
    refine c_ret2 Try.func34 rfl ?_
    exact fun h1 h2 => ⟨_, _, rfl, h1, h2⟩
  obtain ⟨hn, hm1, hm2, hw⟩ := chk26_ok hchk
  (repeat (first | refine c_seq ?_ | refine c_reg ?_ | refine c_rnil ?_ | refine c_block ?_ | refine c_inBlock ?_ | refine c_exit ?_ | refine c_skip ?_ | refine c_label ?_ | refine c_true ?_ | refine c_false ?_ | refine c_yes ?_ | refine c_no ?_ | refine c_op (by first | exact t_call (h := check_f) | exact t_moveG | exact t_move | exact t_moveO | exact t_assignG | exact t_assignO | exact t_assign | exact t_pickT | exact t_pickF | exact t_add | exact t_sub | exact t_neg | exact t_not | exact t_min | exact t_max | exact t_lssT | exact t_lssF | exact t_lss | exact t_leqT | exact t_leqF | exact t_leq | exact t_gtrT | exact t_gtrF | exact t_gtr | exact t_geqT | exact t_geqF | exact t_geq | exact t_eqlT | exact t_eqlF | exact t_eql | exact t_neqT | exact t_neqF | exact t_neq | exact t_ext0 | exact t_ext1 | exact t_ext30 | exact t_ext31 | exact t_ext32 | exact t_len | exact t_lenN | exact t_lenR | exact t_idxN | exact t_idx | exact t_load | exact t_fa | exact t_fv | exact t_bl | exact t_sliceG | exact t_sliceLHN | exact t_sliceLN | exact t_sliceHN | exact t_sliceLH | exact t_sliceL | exact t_sliceH | exact t_bs | exact t_quo | exact t_rem | exact t_boxP) ?_ | refine c_opW t_app ?_))
  refine c_loop (fun x : Nat × Int => [(0, .pu (pSl eI w)), (1, .pu (pI m)), (2, .pu (pSl eI ends)), (9, .pu (pI x.2)), (23, .pu (pSl eI ends)), (24, .pu (pI ends.length)), (25, .pu (pI x.1))])
    (fun x => x.1 ≤ ends.length ∧ ordE w.length 0 ends = ordE w.length x.2 (ends.drop x.1)) (fun x => ends.length - x.1) (0, 0) ⟨Nat.zero_le _, rfl⟩ (by repeat (first | exact trivial | refine ⟨has_rfl rfl, ?_⟩ | refine ⟨has_nil rfl, ?_⟩ | refine ⟨has_nilS rfl, ?_⟩ | refine ⟨has_gr rfl, ?_⟩ | refine ⟨has_int rfl (by first | omega | (simp only [List.length_append, List.length_singleton]; omega)), ?_⟩)) ?_
  rintro ⟨k, last⟩ ⟨hk, hord⟩ ih
  dsimp only at hk hord ih ⊢
  (repeat (first | refine c_seq ?_ | refine c_reg ?_ | refine c_rnil ?_ | refine c_block ?_ | refine c_inBlock ?_ | refine c_exit ?_ | refine c_skip ?_ | refine c_label ?_ | refine c_true ?_ | refine c_false ?_ | refine c_yes ?_ | refine c_no ?_ | refine c_op (by first | exact t_moveG | exact t_move | exact t_moveO | exact t_assignG | exact t_assignO | exact t_assign | exact t_pickT | exact t_pickF | exact t_add | exact t_sub | exact t_neg | exact t_not | exact t_min | exact t_max | exact t_lssT | exact t_lssF | exact t_lss | exact t_leqT | exact t_leqF | exact t_leq | exact t_gtrT | exact t_gtrF | exact t_gtr | exact t_geqT | exact t_geqF | exact t_geq | exact t_eqlT | exact t_eqlF | exact t_eql | exact t_neqT | exact t_neqF | exact t_neq | exact t_ext0 | exact t_ext1 | exact t_ext30 | exact t_ext31 | exact t_ext32 | exact t_len | exact t_lenN | exact t_lenR | exact t_idxN | exact t_idx | exact t_load | exact t_fa | exact t_fv | exact t_bl | exact t_sliceG | exact t_sliceLHN | exact t_sliceLN | exact t_sliceHN | exact t_sliceLH | exact t_sliceL | exact t_sliceH | exact t_bs | exact t_quo | exact t_rem | exact t_boxP) ?_ | refine c_opW t_app ?_))
  refine c_if (fun hlt => ?_) fun hge => ?_
  · have hk2 : k < ends.length := by omega
    rw [List.drop_eq_getElem_cons hk2, ordE] at hord
    by_cases hle : ends[k] ≤ last
    · have e : costM w m ends = (0, 12) := by
        unfold costM
        rw [if_neg (by omega), if_neg (by rw [hord, decide_eq_false (by omega)]; simp)]
      rw [e]
      (repeat (first | refine c_seq ?_ | refine c_reg ?_ | refine c_rnil ?_ | refine c_block ?_ | refine c_inBlock ?_ | refine c_exit ?_ | refine c_skip ?_ | refine c_label ?_ | refine c_true ?_ | refine c_false ?_ | refine c_yes ?_ | refine c_no ?_ | refine c_op (by first | exact t_moveG | exact t_move | exact t_moveO | exact t_assignG | exact t_assignO | exact t_assign | exact t_pickT | exact t_pickF | exact t_add | exact t_sub | exact t_neg | exact t_not | exact t_min | exact t_max | exact t_lssT | exact t_lssF | exact t_lss | exact t_leqT | exact t_leqF | exact t_leq | exact t_gtrT | exact t_gtrF | exact t_gtr | exact t_geqT | exact t_geqF | exact t_geq | exact t_eqlT | exact t_eqlF | exact t_eql | exact t_neqT | exact t_neqF | exact t_neq | exact t_ext0 | exact t_ext1 | exact t_ext30 | exact t_ext31 | exact t_ext32 | exact t_len | exact t_lenN | exact t_lenR | exact t_idxN | exact t_idx | exact t_load | exact t_fa | exact t_fv | exact t_bl | exact t_sliceG | exact t_sliceLHN | exact t_sliceLN | exact t_sliceHN | exact t_sliceLH | exact t_sliceL | exact t_sliceH | exact t_bs | exact t_quo | exact t_rem | exact t_boxP) ?_ | refine c_opW t_app ?_))
      refine c_ret2 Try.func34 rfl ?_
      exact fun h1 h2 => ⟨_, _, rfl, h1, h2⟩
    · rw [decide_eq_true (by omega), Bool.true_and] at hord
      (repeat (first | refine c_seq ?_ | refine c_reg ?_ | refine c_rnil ?_ | refine c_block ?_ | refine c_inBlock ?_ | refine c_exit ?_ | refine c_skip ?_ | refine c_label ?_ | refine c_true ?_ | refine c_false ?_ | refine c_yes ?_ | refine c_no ?_ | refine c_op (by first | exact t_moveG | exact t_move | exact t_moveO | exact t_assignG | exact t_assignO | exact t_assign | exact t_pickT | exact t_pickF | exact t_add | exact t_sub | exact t_neg | exact t_not | exact t_min | exact t_max | exact t_lssT | exact t_lssF | exact t_lss | exact t_leqT | exact t_leqF | exact t_leq | exact t_gtrT | exact t_gtrF | exact t_gtr | exact t_geqT | exact t_geqF | exact t_geq | exact t_eqlT | exact t_eqlF | exact t_eql | exact t_neqT | exact t_neqF | exact t_neq | exact t_ext0 | exact t_ext1 | exact t_ext30 | exact t_ext31 | exact t_ext32 | exact t_len | exact t_lenN | exact t_lenR | exact t_idxN | exact t_idx | exact t_load | exact t_fa | exact t_fv | exact t_bl | exact t_sliceG | exact t_sliceLHN | exact t_sliceLN | exact t_sliceHN | exact t_sliceLH | exact t_sliceL | exact t_sliceH | exact t_bs | exact t_quo | exact t_rem | exact t_boxP) ?_ | refine c_opW t_app ?_))
      exact (ih (k + 1, ends[k]) ⟨by dsimp only; omega, hord⟩ (by dsimp only; omega)).sub (by repeat (first | exact trivial | refine ⟨has_rfl rfl, ?_⟩ | refine ⟨has_nil rfl, ?_⟩ | refine ⟨has_nilS rfl, ?_⟩ | refine ⟨has_gr rfl, ?_⟩ | refine ⟨has_int rfl (by first | omega | (simp only [List.length_append, List.length_singleton]; omega)), ?_⟩))
  have hke : k = ends.length := by omega
  subst hke
  rw [List.drop_length, ordE] at hord
  by_cases hlast : last = w.length
  case neg =>
    have e : costM w m ends = (0, 12) := by
      unfold costM
      rw [if_neg (by omega), if_neg (by rw [hord, decide_eq_false hlast]; exact Bool.false_ne_true)]
    rw [e]
    (repeat (first | refine c_seq ?_ | refine c_reg ?_ | refine c_rnil ?_ | refine c_block ?_ | refine c_inBlock ?_ | refine c_exit ?_ | refine c_skip ?_ | refine c_label ?_ | refine c_true ?_ | refine c_false ?_ | refine c_yes ?_ | refine c_no ?_ | refine c_op (by first | exact t_moveG | exact t_move | exact t_moveO | exact t_assignG | exact t_assignO | exact t_assign | exact t_pickT | exact t_pickF | exact t_add | exact t_sub | exact t_neg | exact t_not | exact t_min | exact t_max | exact t_lssT | exact t_lssF | exact t_lss | exact t_leqT | exact t_leqF | exact t_leq | exact t_gtrT | exact t_gtrF | exact t_gtr | exact t_geqT | exact t_geqF | exact t_geq | exact t_eqlT | exact t_eqlF | exact t_eql | exact t_neqT | exact t_neqF | exact t_neq | exact t_ext0 | exact t_ext1 | exact t_ext30 | exact t_ext31 | exact t_ext32 | exact t_len | exact t_lenN | exact t_lenR | exact t_idxN | exact t_idx | exact t_load | exact t_fa | exact t_fv | exact t_bl | exact t_sliceG | exact t_sliceLHN | exact t_sliceLN | exact t_sliceHN | exact t_sliceLH | exact t_sliceL | exact t_sliceH | exact t_bs | exact t_quo | exact t_rem | exact t_boxP) ?_ | refine c_opW t_app ?_))
    refine c_ret2 Try.func34 rfl ?_
    exact fun h1 h2 => ⟨_, _, rfl, h1, h2⟩
  rw [decide_eq_true hlast] at hord
  have hel := ordE_len hord
  (repeat (first | refine c_seq ?_ | refine c_reg ?_ | refine c_rnil ?_ | refine c_block ?_ | refine c_inBlock ?_ | refine c_exit ?_ | refine c_skip ?_ | refine c_label ?_ | refine c_true ?_ | refine c_false ?_ | refine c_yes ?_ | refine c_no ?_ | refine c_op (by first | exact t_moveG | exact t_move | exact t_moveO | exact t_assignG | exact t_assignO | exact t_assign | exact t_pickT | exact t_pickF | exact t_add | exact t_sub | exact t_neg | exact t_not | exact t_min | exact t_max | exact t_lssT | exact t_lssF | exact t_lss | exact t_leqT | exact t_leqF | exact t_leq | exact t_gtrT | exact t_gtrF | exact t_gtr | exact t_geqT | exact t_geqF | exact t_geq | exact t_eqlT | exact t_eqlF | exact t_eql | exact t_neqT | exact t_neqF | exact t_neq | exact t_ext0 | exact t_ext1 | exact t_ext30 | exact t_ext31 | exact t_ext32 | exact t_len | exact t_lenN | exact t_lenR | exact t_idxN | exact t_idx | exact t_load | exact t_fa | exact t_fv | exact t_bl | exact t_sliceG | exact t_sliceLHN | exact t_sliceLN | exact t_sliceHN | exact t_sliceLH | exact t_sliceL | exact t_sliceH | exact t_bs | exact t_quo | exact t_rem | exact t_boxP) ?_ | refine c_opW t_app ?_))
  refine c_loop (fun x : Nat × Int × Int => [(0, .pu (pSl eI w)), (1, .pu (pI m)), (2, .pu (pSl eI ends)), (12, .pu (pI x.2.2)), (13, .pu (pI x.2.1)), (38, .pu (pSl eI ends)), (39, .pu (pI ends.length)), (40, .pu (pI x.1))])
    (fun x => x.1 ≤ ends.length ∧ 0 ≤ x.2.1 ∧ ordE w.length x.2.1 (ends.drop x.1) = true ∧ 0 ≤ x.2.2 ∧ x.2.2 ≤ 4024036 * x.1 ∧ costG w m 0 ends = (costG w m x.2.1 (ends.drop x.1)).map fun c => x.2.2 + c) (fun x => ends.length - x.1) (0, 0, 0)
    ⟨Nat.zero_le _, Int.le_refl _, hord, Int.le_refl _, by simp, by simp⟩ (by repeat (first | exact trivial | refine ⟨has_rfl rfl, ?_⟩ | refine ⟨has_nil rfl, ?_⟩ | refine ⟨has_nilS rfl, ?_⟩ | refine ⟨has_gr rfl, ?_⟩ | refine ⟨has_int rfl (by first | omega | (simp only [List.length_append, List.length_singleton]; omega)), ?_⟩)) ?_
  rintro ⟨k, from_, cost⟩ ⟨hk, hf0, ho, hc0, hc1, hcost⟩ ih
  dsimp only at hk hf0 ho hc0 hc1 hcost ih ⊢
  (repeat (first | refine c_seq ?_ | refine c_reg ?_ | refine c_rnil ?_ | refine c_block ?_ | refine c_inBlock ?_ | refine c_exit ?_ | refine c_skip ?_ | refine c_label ?_ | refine c_true ?_ | refine c_false ?_ | refine c_yes ?_ | refine c_no ?_ | refine c_op (by first | exact t_moveG | exact t_move | exact t_moveO | exact t_assignG | exact t_assignO | exact t_assign | exact t_pickT | exact t_pickF | exact t_add | exact t_sub | exact t_neg | exact t_not | exact t_min | exact t_max | exact t_lssT | exact t_lssF | exact t_lss | exact t_leqT | exact t_leqF | exact t_leq | exact t_gtrT | exact t_gtrF | exact t_gtr | exact t_geqT | exact t_geqF | exact t_geq | exact t_eqlT | exact t_eqlF | exact t_eql | exact t_neqT | exact t_neqF | exact t_neq | exact t_ext0 | exact t_ext1 | exact t_ext30 | exact t_ext31 | exact t_ext32 | exact t_len | exact t_lenN | exact t_lenR | exact t_idxN | exact t_idx | exact t_load | exact t_fa | exact t_fv | exact t_bl | exact t_sliceG | exact t_sliceLHN | exact t_sliceLN | exact t_sliceHN | exact t_sliceLH | exact t_sliceL | exact t_sliceH | exact t_bs | exact t_quo | exact t_rem | exact t_boxP) ?_ | refine c_opW t_app ?_))
  refine c_if (fun hlt => ?_) fun hge => ?_
  · have hk2 : k < ends.length := by omega
    rw [List.drop_eq_getElem_cons hk2] at ho hcost
    simp only [ordE, Bool.and_eq_true, decide_eq_true_eq] at ho
    obtain ⟨ho1, ho2⟩ := ho
    have hen := (ordE_le ho2).1
    have hs1 : (seg w from_ ends[k]).length ≤ 500 := Nat.le_trans seg_len hn
    have hs2 : ∀ x ∈ seg w from_ ends[k], 1 ≤ x ∧ x ≤ 480 := fun x hx => hw x (seg_mem x hx)
    have hs3 := slk_bd (m := m) hs1 hs2
    rw [costG] at hcost
    (repeat (first | refine c_seq ?_ | refine c_reg ?_ | refine c_rnil ?_ | refine c_block ?_ | refine c_inBlock ?_ | refine c_exit ?_ | refine c_skip ?_ | refine c_label ?_ | refine c_true ?_ | refine c_false ?_ | refine c_yes ?_ | refine c_no ?_ | refine c_op (by first | exact (t_sliceM) | exact t_call (h := (slack_f (l := seg w from_ ends[k]) (by omega) hs1 hs2)) | exact t_moveG | exact t_move | exact t_moveO | exact t_assignG | exact t_assignO | exact t_assign | exact t_pickT | exact t_pickF | exact t_add | exact t_sub | exact t_neg | exact t_not | exact t_min | exact t_max | exact t_lssT | exact t_lssF | exact t_lss | exact t_leqT | exact t_leqF | exact t_leq | exact t_gtrT | exact t_gtrF | exact t_gtr | exact t_geqT | exact t_geqF | exact t_geq | exact t_eqlT | exact t_eqlF | exact t_eql | exact t_neqT | exact t_neqF | exact t_neq | exact t_ext0 | exact t_ext1 | exact t_ext30 | exact t_ext31 | exact t_ext32 | exact t_len | exact t_lenN | exact t_lenR | exact t_idxN | exact t_idx | exact t_load | exact t_fa | exact t_fv | exact t_bl | exact t_sliceG | exact t_sliceLHN | exact t_sliceLN | exact t_sliceHN | exact t_sliceLH | exact t_sliceL | exact t_sliceH | exact t_bs | exact t_quo | exact t_rem | exact t_boxP) ?_ | refine c_opW t_app ?_))
    refine c_if (fun hneg => ?_) fun hpos => ?_
    · rw [if_pos hneg, Option.map_none] at hcost
      rw [cost_eq (c := 0) (e := 9) hchk hord (by rw [hcost])]
      (repeat (first | refine c_seq ?_ | refine c_reg ?_ | refine c_rnil ?_ | refine c_block ?_ | refine c_inBlock ?_ | refine c_exit ?_ | refine c_skip ?_ | refine c_label ?_ | refine c_true ?_ | refine c_false ?_ | refine c_yes ?_ | refine c_no ?_ | refine c_op (by first | exact t_moveG | exact t_move | exact t_moveO | exact t_assignG | exact t_assignO | exact t_assign | exact t_pickT | exact t_pickF | exact t_add | exact t_sub | exact t_neg | exact t_not | exact t_min | exact t_max | exact t_lssT | exact t_lssF | exact t_lss | exact t_leqT | exact t_leqF | exact t_leq | exact t_gtrT | exact t_gtrF | exact t_gtr | exact t_geqT | exact t_geqF | exact t_geq | exact t_eqlT | exact t_eqlF | exact t_eql | exact t_neqT | exact t_neqF | exact t_neq | exact t_ext0 | exact t_ext1 | exact t_ext30 | exact t_ext31 | exact t_ext32 | exact t_len | exact t_lenN | exact t_lenR | exact t_idxN | exact t_idx | exact t_load | exact t_fa | exact t_fv | exact t_bl | exact t_sliceG | exact t_sliceLHN | exact t_sliceLN | exact t_sliceHN | exact t_sliceLH | exact t_sliceL | exact t_sliceH | exact t_bs | exact t_quo | exact t_rem | exact t_boxP) ?_ | refine c_opW t_app ?_))
      refine c_ret2 Try.func34 rfl ?_
      exact fun h1 h2 => ⟨_, _, rfl, h1, h2⟩
    rw [if_neg hpos] at hcost
    have hsq0 := sq_nonneg (slk m (seg w from_ ends[k]))
    have hsq1 : slk m (seg w from_ ends[k]) * slk m (seg w from_ ends[k]) ≤ 4024036 := Int.le_trans (Int.mul_le_mul (show _ ≤ (2006 : Int) by omega) (show _ ≤ (2006 : Int) by omega) (by omega) (by omega)) (by decide)
    by_cases hmore : k + 1 < ends.length
    · have hne : ends.drop (k + 1) ≠ [] := fun h => by have := congrArg List.length h; rw [List.length_drop, List.length_nil] at this; omega
      rw [if_neg hne, Option.map_map] at hcost
      (repeat (first | refine c_seq ?_ | refine c_reg ?_ | refine c_rnil ?_ | refine c_block ?_ | refine c_inBlock ?_ | refine c_exit ?_ | refine c_skip ?_ | refine c_label ?_ | refine c_true ?_ | refine c_false ?_ | refine c_yes ?_ | refine c_no ?_ | refine c_op (by first | exact (t_mul) | exact t_moveG | exact t_move | exact t_moveO | exact t_assignG | exact t_assignO | exact t_assign | exact t_pickT | exact t_pickF | exact t_add | exact t_sub | exact t_neg | exact t_not | exact t_min | exact t_max | exact t_lssT | exact t_lssF | exact t_lss | exact t_leqT | exact t_leqF | exact t_leq | exact t_gtrT | exact t_gtrF | exact t_gtr | exact t_geqT | exact t_geqF | exact t_geq | exact t_eqlT | exact t_eqlF | exact t_eql | exact t_neqT | exact t_neqF | exact t_neq | exact t_ext0 | exact t_ext1 | exact t_ext30 | exact t_ext31 | exact t_ext32 | exact t_len | exact t_lenN | exact t_lenR | exact t_idxN | exact t_idx | exact t_load | exact t_fa | exact t_fv | exact t_bl | exact t_sliceG | exact t_sliceLHN | exact t_sliceLN | exact t_sliceHN | exact t_sliceLH | exact t_sliceL | exact t_sliceH | exact t_bs | exact t_quo | exact t_rem | exact t_boxP) ?_ | refine c_opW t_app ?_))
      refine (ih (k + 1, ends[k], cost + slk m (seg w from_ ends[k]) * slk m (seg w from_ ends[k])) ⟨by dsimp only; omega, by dsimp only; omega, ho2, by dsimp only; omega, by dsimp only; omega, ?_⟩ (by dsimp only; omega)).sub (by repeat (first | exact trivial | refine ⟨has_rfl rfl, ?_⟩ | refine ⟨has_nil rfl, ?_⟩ | refine ⟨has_nilS rfl, ?_⟩ | refine ⟨has_gr rfl, ?_⟩ | refine ⟨has_int rfl (by first | omega | (simp only [List.length_append, List.length_singleton]; omega)), ?_⟩))
      rw [hcost]
      congr 1
      funext c
      dsimp only [Function.comp]
      omega
    · have hne : ends.drop (k + 1) = [] := List.drop_of_length_le (by omega)
      rw [if_pos hne, Option.map_some] at hcost
      (repeat (first | refine c_seq ?_ | refine c_reg ?_ | refine c_rnil ?_ | refine c_block ?_ | refine c_inBlock ?_ | refine c_exit ?_ | refine c_skip ?_ | refine c_label ?_ | refine c_true ?_ | refine c_false ?_ | refine c_yes ?_ | refine c_no ?_ | refine c_op (by first | exact (t_mul) | exact t_moveG | exact t_move | exact t_moveO | exact t_assignG | exact t_assignO | exact t_assign | exact t_pickT | exact t_pickF | exact t_add | exact t_sub | exact t_neg | exact t_not | exact t_min | exact t_max | exact t_lssT | exact t_lssF | exact t_lss | exact t_leqT | exact t_leqF | exact t_leq | exact t_gtrT | exact t_gtrF | exact t_gtr | exact t_geqT | exact t_geqF | exact t_geq | exact t_eqlT | exact t_eqlF | exact t_eql | exact t_neqT | exact t_neqF | exact t_neq | exact t_ext0 | exact t_ext1 | exact t_ext30 | exact t_ext31 | exact t_ext32 | exact t_len | exact t_lenN | exact t_lenR | exact t_idxN | exact t_idx | exact t_load | exact t_fa | exact t_fv | exact t_bl | exact t_sliceG | exact t_sliceLHN | exact t_sliceLN | exact t_sliceHN | exact t_sliceLH | exact t_sliceL | exact t_sliceH | exact t_bs | exact t_quo | exact t_rem | exact t_boxP) ?_ | refine c_opW t_app ?_))
      refine (ih (k + 1, ends[k], cost) ⟨by dsimp only; omega, by dsimp only; omega, ho2, hc0, by dsimp only; omega, ?_⟩ (by dsimp only; omega)).sub (by repeat (first | exact trivial | refine ⟨has_rfl rfl, ?_⟩ | refine ⟨has_nil rfl, ?_⟩ | refine ⟨has_nilS rfl, ?_⟩ | refine ⟨has_gr rfl, ?_⟩ | refine ⟨has_int rfl (by first | omega | (simp only [List.length_append, List.length_singleton]; omega)), ?_⟩))
      rw [hcost, hne, costG]
      rfl
  have hke : k = ends.length := by omega
  subst hke
  rw [List.drop_length, costG, Option.map_some, Int.add_zero] at hcost
  rw [cost_eq (c := cost) (e := 0) hchk hord (by rw [hcost])]
  (repeat (first | refine c_seq ?_ | refine c_reg ?_ | refine c_rnil ?_ | refine c_block ?_ | refine c_inBlock ?_ | refine c_exit ?_ | refine c_skip ?_ | refine c_label ?_ | refine c_true ?_ | refine c_false ?_ | refine c_yes ?_ | refine c_no ?_ | refine c_op (by first | exact t_moveG | exact t_move | exact t_moveO | exact t_assignG | exact t_assignO | exact t_assign | exact t_pickT | exact t_pickF | exact t_add | exact t_sub | exact t_neg | exact t_not | exact t_min | exact t_max | exact t_lssT | exact t_lssF | exact t_lss | exact t_leqT | exact t_leqF | exact t_leq | exact t_gtrT | exact t_gtrF | exact t_gtr | exact t_geqT | exact t_geqF | exact t_geq | exact t_eqlT | exact t_eqlF | exact t_eql | exact t_neqT | exact t_neqF | exact t_neq | exact t_ext0 | exact t_ext1 | exact t_ext30 | exact t_ext31 | exact t_ext32 | exact t_len | exact t_lenN | exact t_lenR | exact t_idxN | exact t_idx | exact t_load | exact t_fa | exact t_fv | exact t_bl | exact t_sliceG | exact t_sliceLHN | exact t_sliceLN | exact t_sliceHN | exact t_sliceLH | exact t_sliceL | exact t_sliceH | exact t_bs | exact t_quo | exact t_rem | exact t_boxP) ?_ | refine c_opW t_app ?_))
  refine c_ret2 Try.func34 rfl ?_
  exact fun h1 h2 => ⟨_, _, rfl, h1, h2⟩

set_option maxHeartbeats 1000000 in
theorem costR_f {w ends : List Int} {m : Int} : Fn Try.prog 36 [pSl eI w, pI m, pSl eI ends] (pT2 (pI (costM w m ends).1) (pI (costM w m ends).2)) := by
  refine fn_of ent36 Try.func36 rfl Try.ntmps36 rfl fun M0 w0 => ?_
  refine c_have 0 (fun h => i_len26 h) fun hl1 => ?_
  refine c_have 2 (fun h => i_len26 h) fun hl2 => ?_
  by_cases hchk : chk26 w m = 0
  case neg =>
    have e : costM w m ends = (0, chk26 w m) := by unfold costM; rw [if_pos hchk]
    rw [e]
    (repeat (first | refine c_seq ?_ | refine c_reg ?_ | refine c_rnil ?_ | refine c_block ?_ | refine c_inBlock ?_ | refine c_exit ?_ | refine c_skip ?_ | refine c_label ?_ | refine c_true ?_ | refine c_false ?_ | refine c_yes ?_ | refine c_no ?_ | refine c_op (by first | exact t_call (h := regular_f) | exact t_moveG | exact t_move | exact t_moveO | exact t_assignG | exact t_assignO | exact t_assign | exact t_pickT | exact t_pickF | exact t_add | exact t_sub | exact t_neg | exact t_not | exact t_min | exact t_max | exact t_lssT | exact t_lssF | exact t_lss | exact t_leqT | exact t_leqF | exact t_leq | exact t_gtrT | exact t_gtrF | exact t_gtr | exact t_geqT | exact t_geqF | exact t_geq | exact t_eqlT | exact t_eqlF | exact t_eql | exact t_neqT | exact t_neqF | exact t_neq | exact t_ext0 | exact t_ext1 | exact t_ext30 | exact t_ext31 | exact t_ext32 | exact t_len | exact t_lenN | exact t_lenR | exact t_idxN | exact t_idx | exact t_load | exact t_fa | exact t_fv | exact t_bl | exact t_sliceG | exact t_sliceLHN | exact t_sliceLN | exact t_sliceHN | exact t_sliceLH | exact t_sliceL | exact t_sliceH | exact t_bs | exact t_quo | exact t_rem | exact t_boxP) ?_ | refine c_opW t_app ?_))
    refine c_ret2 Try.func36 rfl ?_
    exact fun h1 h2 => ⟨_, _, rfl, h1, h2⟩
  obtain ⟨hn, hm1, hm2, hw⟩ := chk26_ok hchk
  (repeat (first | refine c_seq ?_ | refine c_reg ?_ | refine c_rnil ?_ | refine c_block ?_ | refine c_inBlock ?_ | refine c_exit ?_ | refine c_skip ?_ | refine c_label ?_ | refine c_true ?_ | refine c_false ?_ | refine c_yes ?_ | refine c_no ?_ | refine c_op (by first | exact t_call (h := regular_f) | exact t_moveG | exact t_move | exact t_moveO | exact t_assignG | exact t_assignO | exact t_assign | exact t_pickT | exact t_pickF | exact t_add | exact t_sub | exact t_neg | exact t_not | exact t_min | exact t_max | exact t_lssT | exact t_lssF | exact t_lss | exact t_leqT | exact t_leqF | exact t_leq | exact t_gtrT | exact t_gtrF | exact t_gtr | exact t_geqT | exact t_geqF | exact t_geq | exact t_eqlT | exact t_eqlF | exact t_eql | exact t_neqT | exact t_neqF | exact t_neq | exact t_ext0 | exact t_ext1 | exact t_ext30 | exact t_ext31 | exact t_ext32 | exact t_len | exact t_lenN | exact t_lenR | exact t_idxN | exact t_idx | exact t_load | exact t_fa | exact t_fv | exact t_bl | exact t_sliceG | exact t_sliceLHN | exact t_sliceLN | exact t_sliceHN | exact t_sliceLH | exact t_sliceL | exact t_sliceH | exact t_bs | exact t_quo | exact t_rem | exact t_boxP) ?_ | refine c_opW t_app ?_))
  refine c_loop (fun x : Nat × Int => [(0, .pu (pSl eI w)), (1, .pu (pI m)), (2, .pu (pSl eI ends)), (9, .pu (pI x.2)), (10, .pu (pI x.1))])
    (fun x => x.1 ≤ ends.length ∧ ordE w.length 0 ends = ordE w.length x.2 (ends.drop x.1)) (fun x => ends.length - x.1) (0, 0) ⟨Nat.zero_le _, rfl⟩ (by repeat (first | exact trivial | refine ⟨has_rfl rfl, ?_⟩ | refine ⟨has_nil rfl, ?_⟩ | refine ⟨has_nilS rfl, ?_⟩ | refine ⟨has_gr rfl, ?_⟩ | refine ⟨has_int rfl (by first | omega | (simp only [List.length_append, List.length_singleton]; omega)), ?_⟩)) ?_
  rintro ⟨k, last⟩ ⟨hk, hord⟩ ih
  dsimp only at hk hord ih ⊢
  (repeat (first | refine c_seq ?_ | refine c_reg ?_ | refine c_rnil ?_ | refine c_block ?_ | refine c_inBlock ?_ | refine c_exit ?_ | refine c_skip ?_ | refine c_label ?_ | refine c_true ?_ | refine c_false ?_ | refine c_yes ?_ | refine c_no ?_ | refine c_op (by first | exact t_moveG | exact t_move | exact t_moveO | exact t_assignG | exact t_assignO | exact t_assign | exact t_pickT | exact t_pickF | exact t_add | exact t_sub | exact t_neg | exact t_not | exact t_min | exact t_max | exact t_lssT | exact t_lssF | exact t_lss | exact t_leqT | exact t_leqF | exact t_leq | exact t_gtrT | exact t_gtrF | exact t_gtr | exact t_geqT | exact t_geqF | exact t_geq | exact t_eqlT | exact t_eqlF | exact t_eql | exact t_neqT | exact t_neqF | exact t_neq | exact t_ext0 | exact t_ext1 | exact t_ext30 | exact t_ext31 | exact t_ext32 | exact t_len | exact t_lenN | exact t_lenR | exact t_idxN | exact t_idx | exact t_load | exact t_fa | exact t_fv | exact t_bl | exact t_sliceG | exact t_sliceLHN | exact t_sliceLN | exact t_sliceHN | exact t_sliceLH | exact t_sliceL | exact t_sliceH | exact t_bs | exact t_quo | exact t_rem | exact t_boxP) ?_ | refine c_opW t_app ?_))
  refine c_if (fun hlt => ?_) fun hge => ?_
  · have hk2 : k < ends.length := by omega
    rw [List.drop_eq_getElem_cons hk2, ordE] at hord
    by_cases hle : ends[k] ≤ last
    · have e : costM w m ends = (0, 12) := by
        unfold costM
        rw [if_neg (by omega), if_neg (by rw [hord, decide_eq_false (by omega)]; simp)]
      rw [e]
      (repeat (first | refine c_seq ?_ | refine c_reg ?_ | refine c_rnil ?_ | refine c_block ?_ | refine c_inBlock ?_ | refine c_exit ?_ | refine c_skip ?_ | refine c_label ?_ | refine c_true ?_ | refine c_false ?_ | refine c_yes ?_ | refine c_no ?_ | refine c_op (by first | exact t_moveG | exact t_move | exact t_moveO | exact t_assignG | exact t_assignO | exact t_assign | exact t_pickT | exact t_pickF | exact t_add | exact t_sub | exact t_neg | exact t_not | exact t_min | exact t_max | exact t_lssT | exact t_lssF | exact t_lss | exact t_leqT | exact t_leqF | exact t_leq | exact t_gtrT | exact t_gtrF | exact t_gtr | exact t_geqT | exact t_geqF | exact t_geq | exact t_eqlT | exact t_eqlF | exact t_eql | exact t_neqT | exact t_neqF | exact t_neq | exact t_ext0 | exact t_ext1 | exact t_ext30 | exact t_ext31 | exact t_ext32 | exact t_len | exact t_lenN | exact t_lenR | exact t_idxN | exact t_idx | exact t_load | exact t_fa | exact t_fv | exact t_bl | exact t_sliceG | exact t_sliceLHN | exact t_sliceLN | exact t_sliceHN | exact t_sliceLH | exact t_sliceL | exact t_sliceH | exact t_bs | exact t_quo | exact t_rem | exact t_boxP) ?_ | refine c_opW t_app ?_))
      refine c_ret2 Try.func36 rfl ?_
      exact fun h1 h2 => ⟨_, _, rfl, h1, h2⟩
    by_cases hbig : (w.length : Int) < ends[k]
    · have e : costM w m ends = (0, 12) := by
        unfold costM
        rw [if_neg (by omega), if_neg (by
          rw [hord]
          intro hc
          rw [Bool.and_eq_true] at hc
          have := (ordE_le hc.2).1
          omega)]
      rw [e]
      (repeat (first | refine c_seq ?_ | refine c_reg ?_ | refine c_rnil ?_ | refine c_block ?_ | refine c_inBlock ?_ | refine c_exit ?_ | refine c_skip ?_ | refine c_label ?_ | refine c_true ?_ | refine c_false ?_ | refine c_yes ?_ | refine c_no ?_ | refine c_op (by first | exact t_moveG | exact t_move | exact t_moveO | exact t_assignG | exact t_assignO | exact t_assign | exact t_pickT | exact t_pickF | exact t_add | exact t_sub | exact t_neg | exact t_not | exact t_min | exact t_max | exact t_lssT | exact t_lssF | exact t_lss | exact t_leqT | exact t_leqF | exact t_leq | exact t_gtrT | exact t_gtrF | exact t_gtr | exact t_geqT | exact t_geqF | exact t_geq | exact t_eqlT | exact t_eqlF | exact t_eql | exact t_neqT | exact t_neqF | exact t_neq | exact t_ext0 | exact t_ext1 | exact t_ext30 | exact t_ext31 | exact t_ext32 | exact t_len | exact t_lenN | exact t_lenR | exact t_idxN | exact t_idx | exact t_load | exact t_fa | exact t_fv | exact t_bl | exact t_sliceG | exact t_sliceLHN | exact t_sliceLN | exact t_sliceHN | exact t_sliceLH | exact t_sliceL | exact t_sliceH | exact t_bs | exact t_quo | exact t_rem | exact t_boxP) ?_ | refine c_opW t_app ?_))
      refine c_ret2 Try.func36 rfl ?_
      exact fun h1 h2 => ⟨_, _, rfl, h1, h2⟩
    · rw [decide_eq_true (by omega), Bool.true_and] at hord
      (repeat (first | refine c_seq ?_ | refine c_reg ?_ | refine c_rnil ?_ | refine c_block ?_ | refine c_inBlock ?_ | refine c_exit ?_ | refine c_skip ?_ | refine c_label ?_ | refine c_true ?_ | refine c_false ?_ | refine c_yes ?_ | refine c_no ?_ | refine c_op (by first | exact t_moveG | exact t_move | exact t_moveO | exact t_assignG | exact t_assignO | exact t_assign | exact t_pickT | exact t_pickF | exact t_add | exact t_sub | exact t_neg | exact t_not | exact t_min | exact t_max | exact t_lssT | exact t_lssF | exact t_lss | exact t_leqT | exact t_leqF | exact t_leq | exact t_gtrT | exact t_gtrF | exact t_gtr | exact t_geqT | exact t_geqF | exact t_geq | exact t_eqlT | exact t_eqlF | exact t_eql | exact t_neqT | exact t_neqF | exact t_neq | exact t_ext0 | exact t_ext1 | exact t_ext30 | exact t_ext31 | exact t_ext32 | exact t_len | exact t_lenN | exact t_lenR | exact t_idxN | exact t_idx | exact t_load | exact t_fa | exact t_fv | exact t_bl | exact t_sliceG | exact t_sliceLHN | exact t_sliceLN | exact t_sliceHN | exact t_sliceLH | exact t_sliceL | exact t_sliceH | exact t_bs | exact t_quo | exact t_rem | exact t_boxP) ?_ | refine c_opW t_app ?_))
      exact (ih (k + 1, ends[k]) ⟨by dsimp only; omega, hord⟩ (by dsimp only; omega)).sub (by repeat (first | exact trivial | refine ⟨has_rfl rfl, ?_⟩ | refine ⟨has_nil rfl, ?_⟩ | refine ⟨has_nilS rfl, ?_⟩ | refine ⟨has_gr rfl, ?_⟩ | refine ⟨has_int rfl (by first | omega | (simp only [List.length_append, List.length_singleton]; omega)), ?_⟩))
  have hke : k = ends.length := by omega
  subst hke
  rw [List.drop_length, ordE] at hord
  by_cases hlast : last = w.length
  case neg =>
    have e : costM w m ends = (0, 12) := by
      unfold costM
      rw [if_neg (by omega), if_neg (by rw [hord, decide_eq_false hlast]; exact Bool.false_ne_true)]
    rw [e]
    (repeat (first | refine c_seq ?_ | refine c_reg ?_ | refine c_rnil ?_ | refine c_block ?_ | refine c_inBlock ?_ | refine c_exit ?_ | refine c_skip ?_ | refine c_label ?_ | refine c_true ?_ | refine c_false ?_ | refine c_yes ?_ | refine c_no ?_ | refine c_op (by first | exact t_moveG | exact t_move | exact t_moveO | exact t_assignG | exact t_assignO | exact t_assign | exact t_pickT | exact t_pickF | exact t_add | exact t_sub | exact t_neg | exact t_not | exact t_min | exact t_max | exact t_lssT | exact t_lssF | exact t_lss | exact t_leqT | exact t_leqF | exact t_leq | exact t_gtrT | exact t_gtrF | exact t_gtr | exact t_geqT | exact t_geqF | exact t_geq | exact t_eqlT | exact t_eqlF | exact t_eql | exact t_neqT | exact t_neqF | exact t_neq | exact t_ext0 | exact t_ext1 | exact t_ext30 | exact t_ext31 | exact t_ext32 | exact t_len | exact t_lenN | exact t_lenR | exact t_idxN | exact t_idx | exact t_load | exact t_fa | exact t_fv | exact t_bl | exact t_sliceG | exact t_sliceLHN | exact t_sliceLN | exact t_sliceHN | exact t_sliceLH | exact t_sliceL | exact t_sliceH | exact t_bs | exact t_quo | exact t_rem | exact t_boxP) ?_ | refine c_opW t_app ?_))
    refine c_ret2 Try.func36 rfl ?_
    exact fun h1 h2 => ⟨_, _, rfl, h1, h2⟩
  rw [decide_eq_true hlast] at hord
  have hel := ordE_len hord
  (repeat (first | refine c_seq ?_ | refine c_reg ?_ | refine c_rnil ?_ | refine c_block ?_ | refine c_inBlock ?_ | refine c_exit ?_ | refine c_skip ?_ | refine c_label ?_ | refine c_true ?_ | refine c_false ?_ | refine c_yes ?_ | refine c_no ?_ | refine c_op (by first | exact t_moveG | exact t_move | exact t_moveO | exact t_assignG | exact t_assignO | exact t_assign | exact t_pickT | exact t_pickF | exact t_add | exact t_sub | exact t_neg | exact t_not | exact t_min | exact t_max | exact t_lssT | exact t_lssF | exact t_lss | exact t_leqT | exact t_leqF | exact t_leq | exact t_gtrT | exact t_gtrF | exact t_gtr | exact t_geqT | exact t_geqF | exact t_geq | exact t_eqlT | exact t_eqlF | exact t_eql | exact t_neqT | exact t_neqF | exact t_neq | exact t_ext0 | exact t_ext1 | exact t_ext30 | exact t_ext31 | exact t_ext32 | exact t_len | exact t_lenN | exact t_lenR | exact t_idxN | exact t_idx | exact t_load | exact t_fa | exact t_fv | exact t_bl | exact t_sliceG | exact t_sliceLHN | exact t_sliceLN | exact t_sliceHN | exact t_sliceLH | exact t_sliceL | exact t_sliceH | exact t_bs | exact t_quo | exact t_rem | exact t_boxP) ?_ | refine c_opW t_app ?_))
  refine c_loop (fun x : Nat × Int × Int => [(0, .pu (pSl eI w)), (1, .pu (pI m)), (2, .pu (pSl eI ends)), (11, .pu (pI x.2.2)), (9, .pu (pI x.2.1)), (12, .pu (pI x.1))])
    (fun x => x.1 ≤ ends.length ∧ 0 ≤ x.2.1 ∧ ordE w.length x.2.1 (ends.drop x.1) = true ∧ 0 ≤ x.2.2 ∧ x.2.2 ≤ 4024036 * x.1 ∧ costG w m 0 ends = (costG w m x.2.1 (ends.drop x.1)).map fun c => x.2.2 + c) (fun x => ends.length - x.1) (0, 0, 0)
    ⟨Nat.zero_le _, Int.le_refl _, hord, Int.le_refl _, by simp, by simp⟩ (by repeat (first | exact trivial | refine ⟨has_rfl rfl, ?_⟩ | refine ⟨has_nil rfl, ?_⟩ | refine ⟨has_nilS rfl, ?_⟩ | refine ⟨has_gr rfl, ?_⟩ | refine ⟨has_int rfl (by first | omega | (simp only [List.length_append, List.length_singleton]; omega)), ?_⟩)) ?_
  rintro ⟨k, from_, cost⟩ ⟨hk, hf0, ho, hc0, hc1, hcost⟩ ih
  dsimp only at hk hf0 ho hc0 hc1 hcost ih ⊢
  (repeat (first | refine c_seq ?_ | refine c_reg ?_ | refine c_rnil ?_ | refine c_block ?_ | refine c_inBlock ?_ | refine c_exit ?_ | refine c_skip ?_ | refine c_label ?_ | refine c_true ?_ | refine c_false ?_ | refine c_yes ?_ | refine c_no ?_ | refine c_op (by first | exact t_moveG | exact t_move | exact t_moveO | exact t_assignG | exact t_assignO | exact t_assign | exact t_pickT | exact t_pickF | exact t_add | exact t_sub | exact t_neg | exact t_not | exact t_min | exact t_max | exact t_lssT | exact t_lssF | exact t_lss | exact t_leqT | exact t_leqF | exact t_leq | exact t_gtrT | exact t_gtrF | exact t_gtr | exact t_geqT | exact t_geqF | exact t_geq | exact t_eqlT | exact t_eqlF | exact t_eql | exact t_neqT | exact t_neqF | exact t_neq | exact t_ext0 | exact t_ext1 | exact t_ext30 | exact t_ext31 | exact t_ext32 | exact t_len | exact t_lenN | exact t_lenR | exact t_idxN | exact t_idx | exact t_load | exact t_fa | exact t_fv | exact t_bl | exact t_sliceG | exact t_sliceLHN | exact t_sliceLN | exact t_sliceHN | exact t_sliceLH | exact t_sliceL | exact t_sliceH | exact t_bs | exact t_quo | exact t_rem | exact t_boxP) ?_ | refine c_opW t_app ?_))
  refine c_if (fun hlt => ?_) fun hge => ?_
  · have hk2 : k < ends.length := by omega
    rw [List.drop_eq_getElem_cons hk2] at ho hcost
    simp only [ordE, Bool.and_eq_true, decide_eq_true_eq] at ho
    obtain ⟨ho1, ho2⟩ := ho
    have hen := (ordE_le ho2).1
    have hs1 : (seg w from_ ends[k]).length ≤ 500 := Nat.le_trans seg_len hn
    have hs2 : ∀ x ∈ seg w from_ ends[k], 1 ≤ x ∧ x ≤ 480 := fun x hx => hw x (seg_mem x hx)
    have hs3 := slk_bd (m := m) hs1 hs2
    rw [costG] at hcost
    (repeat (first | refine c_seq ?_ | refine c_reg ?_ | refine c_rnil ?_ | refine c_block ?_ | refine c_inBlock ?_ | refine c_exit ?_ | refine c_skip ?_ | refine c_label ?_ | refine c_true ?_ | refine c_false ?_ | refine c_yes ?_ | refine c_no ?_ | refine c_op (by first | exact t_call (h := (slackR_f (l := seg w from_ ends[k]) (by omega) hs1 hs2)) | exact t_moveG | exact t_move | exact t_moveO | exact t_assignG | exact t_assignO | exact t_assign | exact t_pickT | exact t_pickF | exact t_add | exact t_sub | exact t_neg | exact t_not | exact t_min | exact t_max | exact t_lssT | exact t_lssF | exact t_lss | exact t_leqT | exact t_leqF | exact t_leq | exact t_gtrT | exact t_gtrF | exact t_gtr | exact t_geqT | exact t_geqF | exact t_geq | exact t_eqlT | exact t_eqlF | exact t_eql | exact t_neqT | exact t_neqF | exact t_neq | exact t_ext0 | exact t_ext1 | exact t_ext30 | exact t_ext31 | exact t_ext32 | exact t_len | exact t_lenN | exact t_lenR | exact t_idxN | exact t_idx | exact t_load | exact t_fa | exact t_fv | exact t_bl | exact t_sliceG | exact t_sliceLHN | exact t_sliceLN | exact t_sliceHN | exact t_sliceLH | exact t_sliceL | exact t_sliceH | exact t_bs | exact t_quo | exact t_rem | exact t_boxP) ?_ | refine c_opW t_app ?_))
    refine c_if (fun hneg => ?_) fun hpos => ?_
    · rw [if_pos hneg, Option.map_none] at hcost
      rw [cost_eq (c := 0) (e := 9) hchk hord (by rw [hcost])]
      (repeat (first | refine c_seq ?_ | refine c_reg ?_ | refine c_rnil ?_ | refine c_block ?_ | refine c_inBlock ?_ | refine c_exit ?_ | refine c_skip ?_ | refine c_label ?_ | refine c_true ?_ | refine c_false ?_ | refine c_yes ?_ | refine c_no ?_ | refine c_op (by first | exact t_moveG | exact t_move | exact t_moveO | exact t_assignG | exact t_assignO | exact t_assign | exact t_pickT | exact t_pickF | exact t_add | exact t_sub | exact t_neg | exact t_not | exact t_min | exact t_max | exact t_lssT | exact t_lssF | exact t_lss | exact t_leqT | exact t_leqF | exact t_leq | exact t_gtrT | exact t_gtrF | exact t_gtr | exact t_geqT | exact t_geqF | exact t_geq | exact t_eqlT | exact t_eqlF | exact t_eql | exact t_neqT | exact t_neqF | exact t_neq | exact t_ext0 | exact t_ext1 | exact t_ext30 | exact t_ext31 | exact t_ext32 | exact t_len | exact t_lenN | exact t_lenR | exact t_idxN | exact t_idx | exact t_load | exact t_fa | exact t_fv | exact t_bl | exact t_sliceG | exact t_sliceLHN | exact t_sliceLN | exact t_sliceHN | exact t_sliceLH | exact t_sliceL | exact t_sliceH | exact t_bs | exact t_quo | exact t_rem | exact t_boxP) ?_ | refine c_opW t_app ?_))
      refine c_ret2 Try.func36 rfl ?_
      exact fun h1 h2 => ⟨_, _, rfl, h1, h2⟩
    rw [if_neg hpos] at hcost
    have hsq0 := sq_nonneg (slk m (seg w from_ ends[k]))
    have hsq1 : slk m (seg w from_ ends[k]) * slk m (seg w from_ ends[k]) ≤ 4024036 := Int.le_trans (Int.mul_le_mul (show _ ≤ (2006 : Int) by omega) (show _ ≤ (2006 : Int) by omega) (by omega) (by omega)) (by decide)
    by_cases hmore : k + 1 < ends.length
    · have hne : ends.drop (k + 1) ≠ [] := fun h => by have := congrArg List.length h; rw [List.length_drop, List.length_nil] at this; omega
      rw [if_neg hne, Option.map_map] at hcost
      (repeat (first | refine c_seq ?_ | refine c_reg ?_ | refine c_rnil ?_ | refine c_block ?_ | refine c_inBlock ?_ | refine c_exit ?_ | refine c_skip ?_ | refine c_label ?_ | refine c_true ?_ | refine c_false ?_ | refine c_yes ?_ | refine c_no ?_ | refine c_op (by first | exact (t_mul) | exact t_moveG | exact t_move | exact t_moveO | exact t_assignG | exact t_assignO | exact t_assign | exact t_pickT | exact t_pickF | exact t_add | exact t_sub | exact t_neg | exact t_not | exact t_min | exact t_max | exact t_lssT | exact t_lssF | exact t_lss | exact t_leqT | exact t_leqF | exact t_leq | exact t_gtrT | exact t_gtrF | exact t_gtr | exact t_geqT | exact t_geqF | exact t_geq | exact t_eqlT | exact t_eqlF | exact t_eql | exact t_neqT | exact t_neqF | exact t_neq | exact t_ext0 | exact t_ext1 | exact t_ext30 | exact t_ext31 | exact t_ext32 | exact t_len | exact t_lenN | exact t_lenR | exact t_idxN | exact t_idx | exact t_load | exact t_fa | exact t_fv | exact t_bl | exact t_sliceG | exact t_sliceLHN | exact t_sliceLN | exact t_sliceHN | exact t_sliceLH | exact t_sliceL | exact t_sliceH | exact t_bs | exact t_quo | exact t_rem | exact t_boxP) ?_ | refine c_opW t_app ?_))
      refine (ih (k + 1, ends[k], cost + slk m (seg w from_ ends[k]) * slk m (seg w from_ ends[k])) ⟨by dsimp only; omega, by dsimp only; omega, ho2, by dsimp only; omega, by dsimp only; omega, ?_⟩ (by dsimp only; omega)).sub (by repeat (first | exact trivial | refine ⟨has_rfl rfl, ?_⟩ | refine ⟨has_nil rfl, ?_⟩ | refine ⟨has_nilS rfl, ?_⟩ | refine ⟨has_gr rfl, ?_⟩ | refine ⟨has_int rfl (by first | omega | (simp only [List.length_append, List.length_singleton]; omega)), ?_⟩))
      rw [hcost]
      congr 1
      funext c
      dsimp only [Function.comp]
      omega
    · have hne : ends.drop (k + 1) = [] := List.drop_of_length_le (by omega)
      rw [if_pos hne, Option.map_some] at hcost
      (repeat (first | refine c_seq ?_ | refine c_reg ?_ | refine c_rnil ?_ | refine c_block ?_ | refine c_inBlock ?_ | refine c_exit ?_ | refine c_skip ?_ | refine c_label ?_ | refine c_true ?_ | refine c_false ?_ | refine c_yes ?_ | refine c_no ?_ | refine c_op (by first | exact (t_mul) | exact t_moveG | exact t_move | exact t_moveO | exact t_assignG | exact t_assignO | exact t_assign | exact t_pickT | exact t_pickF | exact t_add | exact t_sub | exact t_neg | exact t_not | exact t_min | exact t_max | exact t_lssT | exact t_lssF | exact t_lss | exact t_leqT | exact t_leqF | exact t_leq | exact t_gtrT | exact t_gtrF | exact t_gtr | exact t_geqT | exact t_geqF | exact t_geq | exact t_eqlT | exact t_eqlF | exact t_eql | exact t_neqT | exact t_neqF | exact t_neq | exact t_ext0 | exact t_ext1 | exact t_ext30 | exact t_ext31 | exact t_ext32 | exact t_len | exact t_lenN | exact t_lenR | exact t_idxN | exact t_idx | exact t_load | exact t_fa | exact t_fv | exact t_bl | exact t_sliceG | exact t_sliceLHN | exact t_sliceLN | exact t_sliceHN | exact t_sliceLH | exact t_sliceL | exact t_sliceH | exact t_bs | exact t_quo | exact t_rem | exact t_boxP) ?_ | refine c_opW t_app ?_))
      refine (ih (k + 1, ends[k], cost) ⟨by dsimp only; omega, by dsimp only; omega, ho2, hc0, by dsimp only; omega, ?_⟩ (by dsimp only; omega)).sub (by repeat (first | exact trivial | refine ⟨has_rfl rfl, ?_⟩ | refine ⟨has_nil rfl, ?_⟩ | refine ⟨has_nilS rfl, ?_⟩ | refine ⟨has_gr rfl, ?_⟩ | refine ⟨has_int rfl (by first | omega | (simp only [List.length_append, List.length_singleton]; omega)), ?_⟩))
      rw [hcost, hne, costG]
      rfl
  have hke : k = ends.length := by omega
  subst hke
  rw [List.drop_length, costG, Option.map_some, Int.add_zero] at hcost
  rw [cost_eq (c := cost) (e := 0) hchk hord (by rw [hcost])]
  (repeat (first | refine c_seq ?_ | refine c_reg ?_ | refine c_rnil ?_ | refine c_block ?_ | refine c_inBlock ?_ | refine c_exit ?_ | refine c_skip ?_ | refine c_label ?_ | refine c_true ?_ | refine c_false ?_ | refine c_yes ?_ | refine c_no ?_ | refine c_op (by first | exact t_moveG | exact t_move | exact t_moveO | exact t_assignG | exact t_assignO | exact t_assign | exact t_pickT | exact t_pickF | exact t_add | exact t_sub | exact t_neg | exact t_not | exact t_min | exact t_max | exact t_lssT | exact t_lssF | exact t_lss | exact t_leqT | exact t_leqF | exact t_leq | exact t_gtrT | exact t_gtrF | exact t_gtr | exact t_geqT | exact t_geqF | exact t_geq | exact t_eqlT | exact t_eqlF | exact t_eql | exact t_neqT | exact t_neqF | exact t_neq | exact t_ext0 | exact t_ext1 | exact t_ext30 | exact t_ext31 | exact t_ext32 | exact t_len | exact t_lenN | exact t_lenR | exact t_idxN | exact t_idx | exact t_load | exact t_fa | exact t_fv | exact t_bl | exact t_sliceG | exact t_sliceLHN | exact t_sliceLN | exact t_sliceHN | exact t_sliceLH | exact t_sliceL | exact t_sliceH | exact t_bs | exact t_quo | exact t_rem | exact t_boxP) ?_ | refine c_opW t_app ?_))
  refine c_ret2 Try.func36 rfl ?_
  exact fun h1 h2 => ⟨_, _, rfl, h1, h2⟩

end Go.Proofs.Ytocoinkhbjlbhaa
