/-
  Walk: the law of the gaps.
-/
import Derived.Test.YtocoinkhbjlbhaaT26k
namespace Go.Proofs.Ytocoinkhbjlbhaa
open Go Go.RowKit

/-- Several ways come together. -/
theorem c_join {P : Program} {f : FuncId} {N : Nat} {M0 : Mut} {w0 : World} {R : Value → World → Prop} {G : TF} {todo todo2 : List Item} (F : TF) (h : (∀ {G}, SubT F G → Rt P f N M0 w0 todo2 G R) → Rt P f N M0 w0 todo G R) (h2 : Rt P f N M0 w0 todo2 F R) : Rt P f N M0 w0 todo G R :=
  h fun hs => h2.sub hs

structure GapFacts (u : List Int) (m : Int) : Prop where
  q0 : 0 ≤ (slk m u).tdiv (u.length - 1)
  r0 : 0 ≤ (slk m u).tmod (u.length - 1)
  rk : (slk m u).tmod (u.length - 1) < u.length - 1
  eq : (slk m u).tdiv (u.length - 1) * (u.length - 1) + (slk m u).tmod (u.length - 1) = slk m u
  mul : ∀ i : Nat, (i : Int) ≤ u.length - 1 → 0 ≤ (slk m u).tdiv (u.length - 1) * i ∧ (slk m u).tdiv (u.length - 1) * i ≤ slk m u

theorem gap_facts {u : List Int} {m : Int} (hl : 2 ≤ u.length) (h : 0 ≤ slk m u) : GapFacts u m := by
  have q0 : 0 ≤ (slk m u).tdiv (u.length - 1) := Int.tdiv_nonneg h (by omega)
  have r0 : 0 ≤ (slk m u).tmod (u.length - 1) := Int.tmod_nonneg _ h
  have eq : (slk m u).tdiv (u.length - 1) * (u.length - 1) + (slk m u).tmod (u.length - 1) = slk m u := by
    rw [Int.mul_comm]
    exact Int.mul_tdiv_add_tmod (slk m u) (u.length - 1)
  exact ⟨q0, r0, Int.tmod_lt_of_pos _ (by omega), eq, fun i hi => ⟨Int.mul_nonneg q0 (by omega), by
    have := Int.mul_le_mul_of_nonneg_left hi q0
    omega⟩⟩

theorem slk_sum (m : Int) : ∀ (u : List Int) (k : Nat), u.length = k → slk m u = m + 6 - u.sum - 6 * k
  | [], k, h => by subst h; rw [slk_nil]; simp
  | x :: r, k, h => by
    subst h
    rw [slk_cons, slk_sum (m - (x + 6)) r r.length rfl, List.sum_cons, List.length_cons]
    omega

set_option maxHeartbeats 4000000 in
theorem gapsLaw_f {l : List Int} {n k : Int} : Fn Try.prog 13 [pSl eI l, pI n, pI k] (pB true) := by
  refine fn_of ent13 Try.func13 rfl Try.ntmps13 rfl fun M0 w0 => ?_
  (repeat (first | refine c_seq ?_ | refine c_reg ?_ | refine c_rnil ?_ | refine c_block ?_ | refine c_inBlock ?_ | refine c_exit ?_ | refine c_skip ?_ | refine c_label ?_ | refine c_true ?_ | refine c_false ?_ | refine c_yes ?_ | refine c_no ?_ | refine (c_opX (t_call (h := widths_f))) ?_ | refine c_op (by first | exact t_moveG | exact t_move | exact t_moveO | exact t_assignG | exact t_assignO | exact t_assign | exact t_pickT | exact t_pickF | exact t_add | exact t_sub | exact t_neg | exact t_not | exact t_min | exact t_max | exact t_lssT | exact t_lssF | exact t_lss | exact t_leqT | exact t_leqF | exact t_leq | exact t_gtrT | exact t_gtrF | exact t_gtr | exact t_geqT | exact t_geqF | exact t_geq | exact t_eqlT | exact t_eqlF | exact t_eql | exact t_neqT | exact t_neqF | exact t_neq | exact t_ext0 | exact t_ext1 | exact t_ext30 | exact t_ext31 | exact t_ext32 | exact t_len | exact t_lenN | exact t_lenR | exact t_idxN | exact t_idx | exact t_load | exact t_fa | exact t_fv | exact t_bl | exact t_sliceG | exact t_sliceLHN | exact t_sliceLN | exact t_sliceHN | exact t_sliceLH | exact t_sliceL | exact t_sliceH | exact t_bs | exact t_quo | exact t_rem | exact t_boxP) ?_ | refine c_opW t_app ?_))
  intro w hw
  have hwl := hw.len
  have hm := measM_bd n
  have hk := aro_bd k 60 (by omega)
  (repeat (first | refine c_seq ?_ | refine c_reg ?_ | refine c_rnil ?_ | refine c_block ?_ | refine c_inBlock ?_ | refine c_exit ?_ | refine c_skip ?_ | refine c_label ?_ | refine c_true ?_ | refine c_false ?_ | refine c_yes ?_ | refine c_no ?_ | refine c_op (by first | exact t_call (h := width_f) | exact t_moveG | exact t_move | exact t_moveO | exact t_assignG | exact t_assignO | exact t_assign | exact t_pickT | exact t_pickF | exact t_add | exact t_sub | exact t_neg | exact t_not | exact t_min | exact t_max | exact t_lssT | exact t_lssF | exact t_lss | exact t_leqT | exact t_leqF | exact t_leq | exact t_gtrT | exact t_gtrF | exact t_gtr | exact t_geqT | exact t_geqF | exact t_geq | exact t_eqlT | exact t_eqlF | exact t_eql | exact t_neqT | exact t_neqF | exact t_neq | exact t_ext0 | exact t_ext1 | exact t_ext30 | exact t_ext31 | exact t_ext32 | exact t_len | exact t_lenN | exact t_lenR | exact t_idxN | exact t_idx | exact t_load | exact t_fa | exact t_fv | exact t_bl | exact t_sliceG | exact t_sliceLHN | exact t_sliceLN | exact t_sliceHN | exact t_sliceLH | exact t_sliceL | exact t_sliceH | exact t_bs | exact t_quo | exact t_rem | exact t_boxP) ?_ | refine c_opW t_app ?_))
  refine c_loop (fun i : Nat => [(2, .pu (pI k)), (7, .pu (pSl eI w)), (8, .pu (pI (measM n))), (9, .pu (pI (measM n + 6 - slk (measM n) (w.take i)))), (10, .gr eI (w.take i) 1 3), (11, .pu (pI i))])
    (fun i => i ≤ w.length ∧ (i = 0 ∨ 0 ≤ slk (measM n) (w.take i))) (fun i => w.length - i) 0 ⟨Nat.zero_le _, .inl rfl⟩ ⟨has_rfl rfl, has_rfl rfl, has_rfl rfl, has_int rfl (by rw [List.take_zero, slk_nil]; omega), (by repeat (first | exact trivial | refine ⟨has_rfl rfl, ?_⟩ | refine ⟨has_nil rfl, ?_⟩ | refine ⟨has_nilS rfl, ?_⟩ | refine ⟨has_gr rfl, ?_⟩ | refine ⟨has_int rfl (by first | omega | (simp only [List.length_append, List.length_singleton]; omega)), ?_⟩))⟩ fun i hi ih => ?_
  obtain ⟨hi, hs⟩ := hi
  have hul : (w.take i).length = i := by rw [List.length_take]; omega
  have huw : ∀ x ∈ w.take i, 1 ≤ x ∧ x ≤ 480 := fun x hx => hw.ok x (List.mem_of_mem_take hx)
  have hbd := slk_bd (m := measM n) (l := w.take i) (k := 60) (by omega) huw
  have hu1 : ((w.take i).length : Int) = i := by rw [hul]
  have hg1 : Fn Try.prog 41 [pSl eI (w.take i), pI (measM n), pB false] (pSl eI (gapsM (w.take i) (measM n) false)) := gaps_f (by omega) (by omega) huw
  have hg2 : Fn Try.prog 41 [pSl eI (w.take i), pI (measM n), pB true] (pSl eI (gapsM (w.take i) (measM n) true)) := gaps_f (by omega) (by omega) huw
  have hr1 : Fn Try.prog 42 [pSl eI (w.take i), pI (measM n), pB false] (pSl eI (gapsM (w.take i) (measM n) false)) := gapsR_f (by omega) (by omega) huw
  have hr2 : Fn Try.prog 42 [pSl eI (w.take i), pI (measM n), pB true] (pSl eI (gapsM (w.take i) (measM n) true)) := gapsR_f (by omega) (by omega) huw
  have hgl : (gapsM (w.take i) (measM n) false).length = (w.take i).length - 1 := gapsM_len
  by_cases hgo : ∃ h : i < w.length, measM n + 6 - slk (measM n) (w.take i) + w[i] ≤ measM n ∧ (i : Int) ≤ aro k 60
  · obtain ⟨h1, h2, h3⟩ := hgo
    have hwi := hw.ok _ (List.getElem_mem h1)
    have hsn := slk_take_succ (measM n) w i h1
    (repeat (first | refine c_seq ?_ | refine c_reg ?_ | refine c_rnil ?_ | refine c_block ?_ | refine c_inBlock ?_ | refine c_exit ?_ | refine c_skip ?_ | refine c_label ?_ | refine c_true ?_ | refine c_false ?_ | refine c_yes ?_ | refine c_no ?_ | refine c_op (by first | exact t_call (h := (around_f (by omega))) | exact t_moveG | exact t_move | exact t_moveO | exact t_assignG | exact t_assignO | exact t_assign | exact t_pickT | exact t_pickF | exact t_add | exact t_sub | exact t_neg | exact t_not | exact t_min | exact t_max | exact t_lssT | exact t_lssF | exact t_lss | exact t_leqT | exact t_leqF | exact t_leq | exact t_gtrT | exact t_gtrF | exact t_gtr | exact t_geqT | exact t_geqF | exact t_geq | exact t_eqlT | exact t_eqlF | exact t_eql | exact t_neqT | exact t_neqF | exact t_neq | exact t_ext0 | exact t_ext1 | exact t_ext30 | exact t_ext31 | exact t_ext32 | exact t_len | exact t_lenN | exact t_lenR | exact t_idxN | exact t_idx | exact t_load | exact t_fa | exact t_fv | exact t_bl | exact t_sliceG | exact t_sliceLHN | exact t_sliceLN | exact t_sliceHN | exact t_sliceLH | exact t_sliceL | exact t_sliceH | exact t_bs | exact t_quo | exact t_rem | exact t_boxP) ?_ | refine c_opW t_app ?_))
    refine (ih (i + 1) ⟨by omega, .inr (by omega)⟩ (by omega)).sub ?_
    (repeat' (first | exact trivial | refine ⟨?_, ?_⟩ | fail)) <;> (try first | exact has_rfl rfl | exact has_nil rfl | exact has_nilS rfl | exact has_gr rfl | exact has_int rfl (by first | omega | (simp only [List.length_append, List.length_singleton]; omega)) | fail)
    exact has_grE rfl (by rw [List.take_succ_eq_append_getElem h1])
  by_cases hz : i = 0
  · by_cases h1 : i < w.length
    · have hwi := hw.ok _ (List.getElem_mem h1)
      by_cases h2 : measM n + 6 - slk (measM n) (w.take i) + w[i] ≤ measM n
      · have h3 : aro k 60 < i := by
          rcases Int.lt_or_le (aro k 60) i with h | h
          · exact h
          · exact absurd ⟨h1, h2, h⟩ hgo
        omega
      · (repeat (first | refine c_seq ?_ | refine c_reg ?_ | refine c_rnil ?_ | refine c_block ?_ | refine c_inBlock ?_ | refine c_exit ?_ | refine c_skip ?_ | refine c_label ?_ | refine c_true ?_ | refine c_false ?_ | refine c_yes ?_ | refine c_no ?_ | refine c_op (by first | exact t_call (h := (around_f (by omega))) | exact t_call (h := lives_f) | exact t_moveG | exact t_move | exact t_moveO | exact t_assignG | exact t_assignO | exact t_assign | exact t_pickT | exact t_pickF | exact t_add | exact t_sub | exact t_neg | exact t_not | exact t_min | exact t_max | exact t_lssT | exact t_lssF | exact t_lss | exact t_leqT | exact t_leqF | exact t_leq | exact t_gtrT | exact t_gtrF | exact t_gtr | exact t_geqT | exact t_geqF | exact t_geq | exact t_eqlT | exact t_eqlF | exact t_eql | exact t_neqT | exact t_neqF | exact t_neq | exact t_ext0 | exact t_ext1 | exact t_ext30 | exact t_ext31 | exact t_ext32 | exact t_len | exact t_lenN | exact t_lenR | exact t_idxN | exact t_idx | exact t_load | exact t_fa | exact t_fv | exact t_bl | exact t_sliceG | exact t_sliceLHN | exact t_sliceLN | exact t_sliceHN | exact t_sliceLH | exact t_sliceL | exact t_sliceH | exact t_bs | exact t_quo | exact t_rem | exact t_boxP) ?_ | refine c_opW t_app ?_))
        refine c_ret1 Try.func13 rfl ?_
        exact fun h => h
    · (repeat (first | refine c_seq ?_ | refine c_reg ?_ | refine c_rnil ?_ | refine c_block ?_ | refine c_inBlock ?_ | refine c_exit ?_ | refine c_skip ?_ | refine c_label ?_ | refine c_true ?_ | refine c_false ?_ | refine c_yes ?_ | refine c_no ?_ | refine c_op (by first | exact t_call (h := (around_f (by omega))) | exact t_call (h := lives_f) | exact t_moveG | exact t_move | exact t_moveO | exact t_assignG | exact t_assignO | exact t_assign | exact t_pickT | exact t_pickF | exact t_add | exact t_sub | exact t_neg | exact t_not | exact t_min | exact t_max | exact t_lssT | exact t_lssF | exact t_lss | exact t_leqT | exact t_leqF | exact t_leq | exact t_gtrT | exact t_gtrF | exact t_gtr | exact t_geqT | exact t_geqF | exact t_geq | exact t_eqlT | exact t_eqlF | exact t_eql | exact t_neqT | exact t_neqF | exact t_neq | exact t_ext0 | exact t_ext1 | exact t_ext30 | exact t_ext31 | exact t_ext32 | exact t_len | exact t_lenN | exact t_lenR | exact t_idxN | exact t_idx | exact t_load | exact t_fa | exact t_fv | exact t_bl | exact t_sliceG | exact t_sliceLHN | exact t_sliceLN | exact t_sliceHN | exact t_sliceLH | exact t_sliceL | exact t_sliceH | exact t_bs | exact t_quo | exact t_rem | exact t_boxP) ?_ | refine c_opW t_app ?_))
      refine c_ret1 Try.func13 rfl ?_
      exact fun h => h
  have hs0 : 0 ≤ slk (measM n) (w.take i) := by
    rcases hs with hs | hs
    · omega
    · exact hs
  apply c_join [(8, .pu (pI (measM n))), (10, .gr eI (w.take i) 1 3), (12, .pu (pSl eI (gapsM (w.take i) (measM n) false))), (14, .pu (pI (measM n + 6 - slk (measM n) (w.take i) - 6 * (w.take i).length))), (15, .pu (pI 0))]
  · intro meet
    by_cases h1 : i < w.length
    · have hwi := hw.ok _ (List.getElem_mem h1)
      by_cases h2 : measM n + 6 - slk (measM n) (w.take i) + w[i] ≤ measM n
      · have h3 : aro k 60 < i := by
          rcases Int.lt_or_le (aro k 60) i with h | h
          · exact h
          · exact absurd ⟨h1, h2, h⟩ hgo
        (repeat (first | refine c_seq ?_ | refine c_reg ?_ | refine c_rnil ?_ | refine c_block ?_ | refine c_inBlock ?_ | refine c_exit ?_ | refine c_skip ?_ | refine c_label ?_ | refine c_true ?_ | refine c_false ?_ | refine c_yes ?_ | refine c_no ?_ | refine c_op (by first | exact t_call (h := (around_f (by omega))) | exact t_call (h := hg1) | exact t_call (h := hg2) | exact t_call (h := hr1) | exact t_call (h := hr2) | exact t_call (h := same_v) | exact (t_mul) | exact t_moveG | exact t_move | exact t_moveO | exact t_assignG | exact t_assignO | exact t_assign | exact t_pickT | exact t_pickF | exact t_add | exact t_sub | exact t_neg | exact t_not | exact t_min | exact t_max | exact t_lssT | exact t_lssF | exact t_lss | exact t_leqT | exact t_leqF | exact t_leq | exact t_gtrT | exact t_gtrF | exact t_gtr | exact t_geqT | exact t_geqF | exact t_geq | exact t_eqlT | exact t_eqlF | exact t_eql | exact t_neqT | exact t_neqF | exact t_neq | exact t_ext0 | exact t_ext1 | exact t_ext30 | exact t_ext31 | exact t_ext32 | exact t_len | exact t_lenN | exact t_lenR | exact t_idxN | exact t_idx | exact t_load | exact t_fa | exact t_fv | exact t_bl | exact t_sliceG | exact t_sliceLHN | exact t_sliceLN | exact t_sliceHN | exact t_sliceLH | exact t_sliceL | exact t_sliceH | exact t_bs | exact t_quo | exact t_rem | exact t_boxP) ?_ | refine c_opW t_app ?_))
        exact meet (by repeat (first | exact trivial | refine ⟨has_rfl rfl, ?_⟩ | refine ⟨has_nil rfl, ?_⟩ | refine ⟨has_nilS rfl, ?_⟩ | refine ⟨has_gr rfl, ?_⟩ | refine ⟨has_int rfl (by first | omega | (simp only [List.length_append, List.length_singleton]; omega)), ?_⟩))
      · (repeat (first | refine c_seq ?_ | refine c_reg ?_ | refine c_rnil ?_ | refine c_block ?_ | refine c_inBlock ?_ | refine c_exit ?_ | refine c_skip ?_ | refine c_label ?_ | refine c_true ?_ | refine c_false ?_ | refine c_yes ?_ | refine c_no ?_ | refine c_op (by first | exact t_call (h := (around_f (by omega))) | exact t_call (h := hg1) | exact t_call (h := hg2) | exact t_call (h := hr1) | exact t_call (h := hr2) | exact t_call (h := same_v) | exact (t_mul) | exact t_moveG | exact t_move | exact t_moveO | exact t_assignG | exact t_assignO | exact t_assign | exact t_pickT | exact t_pickF | exact t_add | exact t_sub | exact t_neg | exact t_not | exact t_min | exact t_max | exact t_lssT | exact t_lssF | exact t_lss | exact t_leqT | exact t_leqF | exact t_leq | exact t_gtrT | exact t_gtrF | exact t_gtr | exact t_geqT | exact t_geqF | exact t_geq | exact t_eqlT | exact t_eqlF | exact t_eql | exact t_neqT | exact t_neqF | exact t_neq | exact t_ext0 | exact t_ext1 | exact t_ext30 | exact t_ext31 | exact t_ext32 | exact t_len | exact t_lenN | exact t_lenR | exact t_idxN | exact t_idx | exact t_load | exact t_fa | exact t_fv | exact t_bl | exact t_sliceG | exact t_sliceLHN | exact t_sliceLN | exact t_sliceHN | exact t_sliceLH | exact t_sliceL | exact t_sliceH | exact t_bs | exact t_quo | exact t_rem | exact t_boxP) ?_ | refine c_opW t_app ?_))
        exact meet (by repeat (first | exact trivial | refine ⟨has_rfl rfl, ?_⟩ | refine ⟨has_nil rfl, ?_⟩ | refine ⟨has_nilS rfl, ?_⟩ | refine ⟨has_gr rfl, ?_⟩ | refine ⟨has_int rfl (by first | omega | (simp only [List.length_append, List.length_singleton]; omega)), ?_⟩))
    · (repeat (first | refine c_seq ?_ | refine c_reg ?_ | refine c_rnil ?_ | refine c_block ?_ | refine c_inBlock ?_ | refine c_exit ?_ | refine c_skip ?_ | refine c_label ?_ | refine c_true ?_ | refine c_false ?_ | refine c_yes ?_ | refine c_no ?_ | refine c_op (by first | exact t_call (h := (around_f (by omega))) | exact t_call (h := hg1) | exact t_call (h := hg2) | exact t_call (h := hr1) | exact t_call (h := hr2) | exact t_call (h := same_v) | exact (t_mul) | exact t_moveG | exact t_move | exact t_moveO | exact t_assignG | exact t_assignO | exact t_assign | exact t_pickT | exact t_pickF | exact t_add | exact t_sub | exact t_neg | exact t_not | exact t_min | exact t_max | exact t_lssT | exact t_lssF | exact t_lss | exact t_leqT | exact t_leqF | exact t_leq | exact t_gtrT | exact t_gtrF | exact t_gtr | exact t_geqT | exact t_geqF | exact t_geq | exact t_eqlT | exact t_eqlF | exact t_eql | exact t_neqT | exact t_neqF | exact t_neq | exact t_ext0 | exact t_ext1 | exact t_ext30 | exact t_ext31 | exact t_ext32 | exact t_len | exact t_lenN | exact t_lenR | exact t_idxN | exact t_idx | exact t_load | exact t_fa | exact t_fv | exact t_bl | exact t_sliceG | exact t_sliceLHN | exact t_sliceLN | exact t_sliceHN | exact t_sliceLH | exact t_sliceL | exact t_sliceH | exact t_bs | exact t_quo | exact t_rem | exact t_boxP) ?_ | refine c_opW t_app ?_))
      exact meet (by repeat (first | exact trivial | refine ⟨has_rfl rfl, ?_⟩ | refine ⟨has_nil rfl, ?_⟩ | refine ⟨has_nilS rfl, ?_⟩ | refine ⟨has_gr rfl, ?_⟩ | refine ⟨has_int rfl (by first | omega | (simp only [List.length_append, List.length_singleton]; omega)), ?_⟩))
  clear hg1 hg2 hr1 hr2 ih hgo
  generalize w.take i = u at *
  by_cases h1 : u.length = 1
  · have hgn : gapsM u (measM n) false = [] := List.eq_nil_of_length_eq_zero (by omega)
    refine c_loop (fun _ : Unit => [(8, .pu (pI (measM n))), (10, .gr eI u 1 3), (12, .pu (pSl eI (gapsM u (measM n) false))), (14, .pu (pI (measM n + 6 - slk (measM n) u - 6 * u.length))), (15, .pu (pI 0))]) (fun _ => True) (fun _ => 0) () trivial (by repeat (first | exact trivial | refine ⟨has_rfl rfl, ?_⟩ | refine ⟨has_nil rfl, ?_⟩ | refine ⟨has_nilS rfl, ?_⟩ | refine ⟨has_gr rfl, ?_⟩ | refine ⟨has_int rfl (by first | omega | (simp only [List.length_append, List.length_singleton]; omega)), ?_⟩)) fun _ _ _ => ?_
    (repeat (first | refine c_seq ?_ | refine c_reg ?_ | refine c_rnil ?_ | refine c_block ?_ | refine c_inBlock ?_ | refine c_exit ?_ | refine c_skip ?_ | refine c_label ?_ | refine c_true ?_ | refine c_false ?_ | refine c_yes ?_ | refine c_no ?_ | refine c_op (by first | exact t_call (h := lives_f) | exact t_moveG | exact t_move | exact t_moveO | exact t_assignG | exact t_assignO | exact t_assign | exact t_pickT | exact t_pickF | exact t_add | exact t_sub | exact t_neg | exact t_not | exact t_min | exact t_max | exact t_lssT | exact t_lssF | exact t_lss | exact t_leqT | exact t_leqF | exact t_leq | exact t_gtrT | exact t_gtrF | exact t_gtr | exact t_geqT | exact t_geqF | exact t_geq | exact t_eqlT | exact t_eqlF | exact t_eql | exact t_neqT | exact t_neqF | exact t_neq | exact t_ext0 | exact t_ext1 | exact t_ext30 | exact t_ext31 | exact t_ext32 | exact t_len | exact t_lenN | exact t_lenR | exact t_idxN | exact t_idx | exact t_load | exact t_fa | exact t_fv | exact t_bl | exact t_sliceG | exact t_sliceLHN | exact t_sliceLN | exact t_sliceHN | exact t_sliceLH | exact t_sliceL | exact t_sliceH | exact t_bs | exact t_quo | exact t_rem | exact t_boxP) ?_ | refine c_opW t_app ?_))
    refine c_ret1 Try.func13 rfl ?_
    exact fun h => h
  have hf := gap_facts (u := u) (m := measM n) (by omega) hs0
  have q0 := hf.q0
  have r0 := hf.r0
  have rk := hf.rk
  have heq := hf.eq
  have hmul := hf.mul
  have hget : ∀ j (h : j < (gapsM u (measM n) false).length), (gapsM u (measM n) false)[j] = gapV u (measM n) j := fun j h => gapsM_get h
  have hgz : 0 < (gapsM u (measM n) false).length := by omega
  have hg0 := hget 0 hgz
  unfold gapV at hg0 hget
  generalize hq : (slk (measM n) u).tdiv (u.length - 1) = q at *
  generalize hr : (slk (measM n) u).tmod (u.length - 1) = r at *
  refine c_loop (fun j : Nat => [(8, .pu (pI (measM n))), (10, .gr eI u 1 3), (12, .pu (pSl eI (gapsM u (measM n) false))), (14, .pu (pI (measM n + 6 - slk (measM n) u - 6 * u.length + (6 * j + q * j + min (j : Int) r)))), (15, .pu (pI j))])
    (fun j => j ≤ u.length - 1) (fun j => u.length - j) 0 (Nat.zero_le _) ⟨has_rfl rfl, has_rfl rfl, has_rfl rfl, has_int rfl (by simp; omega), has_rfl rfl, trivial⟩ fun j hj ih => ?_
  have hmj := hmul j (by omega)
  by_cases hlt : j < u.length - 1
  · have hgj := hget j (by omega)
    have hmj1 := hmul (j + 1) (by omega)
    have hexp : q * ((j + 1 : Nat) : Int) = q * j + q := by
      rw [show ((j + 1 : Nat) : Int) = (j : Int) + 1 by omega, Int.mul_add, Int.mul_one]
    have hjl : j < (gapsM u (measM n) false).length := by omega
    (repeat (first | refine c_seq ?_ | refine c_reg ?_ | refine c_rnil ?_ | refine c_block ?_ | refine c_inBlock ?_ | refine c_exit ?_ | refine c_skip ?_ | refine c_label ?_ | refine c_true ?_ | refine c_false ?_ | refine c_yes ?_ | refine c_no ?_ | refine c_op (by first | exact t_moveG | exact t_move | exact t_moveO | exact t_assignG | exact t_assignO | exact t_assign | exact t_pickT | exact t_pickF | exact t_add | exact t_sub | exact t_neg | exact t_not | exact t_min | exact t_max | exact t_lssT | exact t_lssF | exact t_lss | exact t_leqT | exact t_leqF | exact t_leq | exact t_gtrT | exact t_gtrF | exact t_gtr | exact t_geqT | exact t_geqF | exact t_geq | exact t_eqlT | exact t_eqlF | exact t_eql | exact t_neqT | exact t_neqF | exact t_neq | exact t_ext0 | exact t_ext1 | exact t_ext30 | exact t_ext31 | exact t_ext32 | exact t_len | exact t_lenN | exact t_lenR | exact t_idxN | exact t_idx | exact t_load | exact t_fa | exact t_fv | exact t_bl | exact t_sliceG | exact t_sliceLHN | exact t_sliceLN | exact t_sliceHN | exact t_sliceLH | exact t_sliceL | exact t_sliceH | exact t_bs | exact t_quo | exact t_rem | exact t_boxP) ?_ | refine c_opW t_app ?_))
    refine c_draw0 mixed (by kernel_rfl) ?_
    (repeat (first | refine d_op (by first | exact (t_idxE (n := 0) (hm := rfl)) | exact t_moveG | exact t_move | exact t_moveO | exact t_assignG | exact t_assignO | exact t_assign | exact t_pickT | exact t_pickF | exact t_add | exact t_sub | exact t_neg | exact t_not | exact t_min | exact t_max | exact t_lssT | exact t_lssF | exact t_lss | exact t_leqT | exact t_leqF | exact t_leq | exact t_gtrT | exact t_gtrF | exact t_gtr | exact t_geqT | exact t_geqF | exact t_geq | exact t_eqlT | exact t_eqlF | exact t_eql | exact t_neqT | exact t_neqF | exact t_neq | exact t_ext0 | exact t_ext1 | exact t_ext30 | exact t_ext31 | exact t_ext32 | exact t_len | exact t_lenN | exact t_lenR | exact t_idxN | exact t_idx | exact t_load | exact t_fa | exact t_fv | exact t_bl | exact t_sliceG | exact t_sliceLHN | exact t_sliceLN | exact t_sliceHN | exact t_sliceLH | exact t_sliceL | exact t_sliceH | exact t_bs | exact t_quo | exact t_rem | exact t_boxP) ?_ | refine d_yes (by first | exact (t_idxE (n := 0) (hm := rfl)) | exact t_moveG | exact t_move | exact t_moveO | exact t_assignG | exact t_assignO | exact t_assign | exact t_pickT | exact t_pickF | exact t_add | exact t_sub | exact t_neg | exact t_not | exact t_min | exact t_max | exact t_lssT | exact t_lssF | exact t_lss | exact t_leqT | exact t_leqF | exact t_leq | exact t_gtrT | exact t_gtrF | exact t_gtr | exact t_geqT | exact t_geqF | exact t_geq | exact t_eqlT | exact t_eqlF | exact t_eql | exact t_neqT | exact t_neqF | exact t_neq | exact t_ext0 | exact t_ext1 | exact t_ext30 | exact t_ext31 | exact t_ext32 | exact t_len | exact t_lenN | exact t_lenR | exact t_idxN | exact t_idx | exact t_load | exact t_fa | exact t_fv | exact t_bl | exact t_sliceG | exact t_sliceLHN | exact t_sliceLN | exact t_sliceHN | exact t_sliceLH | exact t_sliceL | exact t_sliceH | exact t_bs | exact t_quo | exact t_rem | exact t_boxP) ?_ | refine d_no ?_))
    refine d_nil (q_nil ?_ (by kernel_rfl))
    (repeat (first | refine c_seq ?_ | refine c_reg ?_ | refine c_rnil ?_ | refine c_block ?_ | refine c_inBlock ?_ | refine c_exit ?_ | refine c_skip ?_ | refine c_label ?_ | refine c_true ?_ | refine c_false ?_ | refine c_yes ?_ | refine c_no ?_ | refine c_op (by first | exact t_moveG | exact t_move | exact t_moveO | exact t_assignG | exact t_assignO | exact t_assign | exact t_pickT | exact t_pickF | exact t_add | exact t_sub | exact t_neg | exact t_not | exact t_min | exact t_max | exact t_lssT | exact t_lssF | exact t_lss | exact t_leqT | exact t_leqF | exact t_leq | exact t_gtrT | exact t_gtrF | exact t_gtr | exact t_geqT | exact t_geqF | exact t_geq | exact t_eqlT | exact t_eqlF | exact t_eql | exact t_neqT | exact t_neqF | exact t_neq | exact t_ext0 | exact t_ext1 | exact t_ext30 | exact t_ext31 | exact t_ext32 | exact t_len | exact t_lenN | exact t_lenR | exact t_idxN | exact t_idx | exact t_load | exact t_fa | exact t_fv | exact t_bl | exact t_sliceG | exact t_sliceLHN | exact t_sliceLN | exact t_sliceHN | exact t_sliceLH | exact t_sliceL | exact t_sliceH | exact t_bs | exact t_quo | exact t_rem | exact t_boxP) ?_ | refine c_opW t_app ?_))
    refine (ih (j + 1) (by omega) (by omega)).sub ?_
    (repeat' (first | exact trivial | refine ⟨?_, ?_⟩ | fail)) <;> (try first | exact has_rfl rfl | exact has_nil rfl | exact has_nilS rfl | exact has_gr rfl | exact has_int rfl (by first | omega | (simp only [List.length_append, List.length_singleton]; omega)) | fail)
  · have hje : (j : Int) = u.length - 1 := by omega
    rw [hje] at hmj
    have hfin : measM n + 6 - slk (measM n) u - 6 * u.length + (6 * j + q * j + min (j : Int) r) = measM n := by
      rw [hje]
      omega
    rw [hfin]
    (repeat (first | refine c_seq ?_ | refine c_reg ?_ | refine c_rnil ?_ | refine c_block ?_ | refine c_inBlock ?_ | refine c_exit ?_ | refine c_skip ?_ | refine c_label ?_ | refine c_true ?_ | refine c_false ?_ | refine c_yes ?_ | refine c_no ?_ | refine c_op (by first | exact t_call (h := lives_f) | exact t_moveG | exact t_move | exact t_moveO | exact t_assignG | exact t_assignO | exact t_assign | exact t_pickT | exact t_pickF | exact t_add | exact t_sub | exact t_neg | exact t_not | exact t_min | exact t_max | exact t_lssT | exact t_lssF | exact t_lss | exact t_leqT | exact t_leqF | exact t_leq | exact t_gtrT | exact t_gtrF | exact t_gtr | exact t_geqT | exact t_geqF | exact t_geq | exact t_eqlT | exact t_eqlF | exact t_eql | exact t_neqT | exact t_neqF | exact t_neq | exact t_ext0 | exact t_ext1 | exact t_ext30 | exact t_ext31 | exact t_ext32 | exact t_len | exact t_lenN | exact t_lenR | exact t_idxN | exact t_idx | exact t_load | exact t_fa | exact t_fv | exact t_bl | exact t_sliceG | exact t_sliceLHN | exact t_sliceLN | exact t_sliceHN | exact t_sliceLH | exact t_sliceL | exact t_sliceH | exact t_bs | exact t_quo | exact t_rem | exact t_boxP) ?_ | refine c_opW t_app ?_))
    refine c_ret1 Try.func13 rfl ?_
    exact fun h => h

theorem gapsLaw_w (M : Mut) (w : World) (vl : Value) (l : List Int) (n k : Int) (hm : MB M w) (hl : SlOf eI M w vl l) (hI : I64 n) (hI2 : I64 k) :
    CallsV Try.prog 13 [vl, .int .i64 n, .int .i64 k] w (fun u w' => u = .bool true ∧ Below w.heap.size w w') :=
  gapsLaw_f.run M w _ hm ⟨hl, ⟨rfl, rng64 hI⟩, ⟨rfl, rng64 hI2⟩, trivial⟩

end Go.Proofs.Ytocoinkhbjlbhaa
