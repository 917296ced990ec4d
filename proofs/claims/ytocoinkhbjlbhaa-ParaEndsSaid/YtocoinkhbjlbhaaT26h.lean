/-
  What the functions of layer 26 and of its reference do: gaps.
-/
import Derived.Test.YtocoinkhbjlbhaaT26e
import Derived.Test.YtocoinkhbjlbhaaT26g
namespace Go.Proofs.Ytocoinkhbjlbhaa
open Go Go.RowKit

/-- A gap of a line that is filled. -/
def gapV (w : List Int) (m : Int) (i : Nat) : Int := 6 + (slk m w).tdiv (w.length - 1) + (if (i : Int) < (slk m w).tmod (w.length - 1) then 1 else 0)
def gapsM (w : List Int) (m : Int) (last : Bool) : List Int := (List.range (w.length - 1)).map fun i => if last then 6 else gapV w m i

theorem gapsM_len {w : List Int} {m : Int} {last : Bool} : (gapsM w m last).length = w.length - 1 := by simp [gapsM]
theorem gapsM_get {w : List Int} {m : Int} {last : Bool} {i : Nat} (h : i < (gapsM w m last).length) : (gapsM w m last)[i] = if last then 6 else gapV w m i := by simp [gapsM]

theorem repeatK_f {x k : Int} {K : Nat} (h : 1 ≤ k ∧ k ≤ 1000000) (hk : k = K) : FnI Try.prog 60 [pSl eI [x], pI k] 3 (List.replicate K x) := by
  have := repeat_f (x := x) h
  subst hk
  rwa [Int.toNat_natCast] at this

theorem gapsM_last {w : List Int} {m : Int} : gapsM w m true = List.replicate (w.length - 1) 6 := by
  unfold gapsM
  apply List.ext_getElem
  · simp
  · intro i h1 h2
    simp

set_option maxHeartbeats 1000000 in
theorem gaps_f {w : List Int} {m : Int} {last : Bool} (hm : 0 ≤ m ∧ m ≤ 2000) (hl : w.length ≤ 500) (hw : ∀ x ∈ w, 1 ≤ x ∧ x ≤ 480) :
    Fn Try.prog 41 [pSl eI w, pI m, pB last] (pSl eI (gapsM w m last)) := by
  refine fn_of ent41 Try.func41 rfl Try.ntmps41 rfl fun M0 w0 => ?_
  by_cases hk : w.length ≤ 1
  · have e : gapsM w m last = [] := by
      apply List.eq_nil_of_length_eq_zero
      rw [gapsM_len]
      omega
    rw [e]
    (repeat (first | refine c_seq ?_ | refine c_reg ?_ | refine c_rnil ?_ | refine c_block ?_ | refine c_inBlock ?_ | refine c_exit ?_ | refine c_skip ?_ | refine c_label ?_ | refine c_true ?_ | refine c_false ?_ | refine c_yes ?_ | refine c_no ?_ | refine c_op (by first | exact t_moveG | exact t_move | exact t_moveO | exact t_assignG | exact t_assignO | exact t_assign | exact t_pickT | exact t_pickF | exact t_add | exact t_sub | exact t_neg | exact t_not | exact t_min | exact t_max | exact t_lssT | exact t_lssF | exact t_lss | exact t_leqT | exact t_leqF | exact t_leq | exact t_gtrT | exact t_gtrF | exact t_gtr | exact t_geqT | exact t_geqF | exact t_geq | exact t_eqlT | exact t_eqlF | exact t_eql | exact t_neqT | exact t_neqF | exact t_neq | exact t_ext0 | exact t_ext1 | exact t_ext30 | exact t_ext31 | exact t_ext32 | exact t_len | exact t_lenN | exact t_lenR | exact t_idxN | exact t_idx | exact t_load | exact t_fa | exact t_fv | exact t_bl | exact t_sliceG | exact t_sliceLHN | exact t_sliceLN | exact t_sliceHN | exact t_sliceLH | exact t_sliceL | exact t_sliceH | exact t_bs | exact t_quo | exact t_rem | exact t_boxP) ?_ | refine c_opW t_app ?_))
    refine c_ret1 Try.func41 rfl ?_
    intro M w' v h
    rw [show v = _ from h]
    exact SlOf.nil _ _ _
  obtain ⟨K, hK⟩ : ∃ K : Nat, w.length = K + 1 := ⟨w.length - 1, by omega⟩
  have hbd := slk_bd (m := m) hl hw
  (repeat (first | refine c_seq ?_ | refine c_reg ?_ | refine c_rnil ?_ | refine c_block ?_ | refine c_inBlock ?_ | refine c_exit ?_ | refine c_skip ?_ | refine c_label ?_ | refine c_true ?_ | refine c_false ?_ | refine c_yes ?_ | refine c_no ?_ | refine c_op (by first | exact (t_bsI [6]) | exact (t_callI 2 (repeatK_f (K := K) (k := (w.length : Int) - 1) (by omega) (by omega))) | exact t_moveG | exact t_move | exact t_moveO | exact t_assignG | exact t_assignO | exact t_assign | exact t_pickT | exact t_pickF | exact t_add | exact t_sub | exact t_neg | exact t_not | exact t_min | exact t_max | exact t_lssT | exact t_lssF | exact t_lss | exact t_leqT | exact t_leqF | exact t_leq | exact t_gtrT | exact t_gtrF | exact t_gtr | exact t_geqT | exact t_geqF | exact t_geq | exact t_eqlT | exact t_eqlF | exact t_eql | exact t_neqT | exact t_neqF | exact t_neq | exact t_ext0 | exact t_ext1 | exact t_ext30 | exact t_ext31 | exact t_ext32 | exact t_len | exact t_lenN | exact t_lenR | exact t_idxN | exact t_idx | exact t_load | exact t_fa | exact t_fv | exact t_bl | exact t_sliceG | exact t_sliceLHN | exact t_sliceLN | exact t_sliceHN | exact t_sliceLH | exact t_sliceL | exact t_sliceH | exact t_bs | exact t_quo | exact t_rem | exact t_boxP) ?_ | refine c_opW t_app ?_))
  refine c_row 8 100 fun b => ?_
  rw [List.length_replicate]
  refine c_ifb (fun hb => ?_) fun hb => ?_
  · subst hb
    rw [gapsM_last, show w.length - 1 = K by omega]
    refine c_frz 8 100 ?_
    (repeat (first | refine c_seq ?_ | refine c_reg ?_ | refine c_rnil ?_ | refine c_block ?_ | refine c_inBlock ?_ | refine c_exit ?_ | refine c_skip ?_ | refine c_label ?_ | refine c_true ?_ | refine c_false ?_ | refine c_yes ?_ | refine c_no ?_ | refine c_op (by first | exact t_moveG | exact t_move | exact t_moveO | exact t_assignG | exact t_assignO | exact t_assign | exact t_pickT | exact t_pickF | exact t_add | exact t_sub | exact t_neg | exact t_not | exact t_min | exact t_max | exact t_lssT | exact t_lssF | exact t_lss | exact t_leqT | exact t_leqF | exact t_leq | exact t_gtrT | exact t_gtrF | exact t_gtr | exact t_geqT | exact t_geqF | exact t_geq | exact t_eqlT | exact t_eqlF | exact t_eql | exact t_neqT | exact t_neqF | exact t_neq | exact t_ext0 | exact t_ext1 | exact t_ext30 | exact t_ext31 | exact t_ext32 | exact t_len | exact t_lenN | exact t_lenR | exact t_idxN | exact t_idx | exact t_load | exact t_fa | exact t_fv | exact t_bl | exact t_sliceG | exact t_sliceLHN | exact t_sliceLN | exact t_sliceHN | exact t_sliceLH | exact t_sliceL | exact t_sliceH | exact t_bs | exact t_quo | exact t_rem | exact t_boxP) ?_ | refine c_opW t_app ?_))
    refine c_ret1 Try.func41 rfl ?_
    exact fun h => h
  subst hb
  have hkI : (w.length : Int) - 1 = K := by omega
  have ht1 := tmod_rng (m := slk m w) (n := (w.length : Int) - 1) (by omega)
  have ht2 := tdiv_rng (m := slk m w) (n := (w.length : Int) - 1) (by unfold I64; omega) (by omega)
  have ht3 := Int.natAbs_tdiv_le_natAbs (slk m w) ((w.length : Int) - 1)
  (repeat (first | refine c_seq ?_ | refine c_reg ?_ | refine c_rnil ?_ | refine c_block ?_ | refine c_inBlock ?_ | refine c_exit ?_ | refine c_skip ?_ | refine c_label ?_ | refine c_true ?_ | refine c_false ?_ | refine c_yes ?_ | refine c_no ?_ | refine c_op (by first | exact t_call (h := (slack_f hm hl hw)) | exact t_moveG | exact t_move | exact t_moveO | exact t_assignG | exact t_assignO | exact t_assign | exact t_pickT | exact t_pickF | exact t_add | exact t_sub | exact t_neg | exact t_not | exact t_min | exact t_max | exact t_lssT | exact t_lssF | exact t_lss | exact t_leqT | exact t_leqF | exact t_leq | exact t_gtrT | exact t_gtrF | exact t_gtr | exact t_geqT | exact t_geqF | exact t_geq | exact t_eqlT | exact t_eqlF | exact t_eql | exact t_neqT | exact t_neqF | exact t_neq | exact t_ext0 | exact t_ext1 | exact t_ext30 | exact t_ext31 | exact t_ext32 | exact t_len | exact t_lenN | exact t_lenR | exact t_idxN | exact t_idx | exact t_load | exact t_fa | exact t_fv | exact t_bl | exact t_sliceG | exact t_sliceLHN | exact t_sliceLN | exact t_sliceHN | exact t_sliceLH | exact t_sliceL | exact t_sliceH | exact t_bs | exact t_quo | exact t_rem | exact t_boxP) ?_ | refine c_opW t_app ?_))
  refine c_loop (fun x : List Int × Nat => [(0, .pu (pSl eI w)), (7, .pu (pI ((w.length : Int) - 1))), (8, .pu (pSr b K)), (100, .rw b 2 eI x.1 3), (9, .pu (pI (slk m w))), (25, .pu (pI K)), (26, .pu (pI x.2))])
    (fun x => x.1.length = K ∧ x.2 ≤ K ∧ (∀ j, j < x.2 → x.1[j]? = some (gapV w m j)) ∧ ∀ j, x.2 ≤ j → j < K → x.1[j]? = some 6) (fun x => K - x.2) (List.replicate K 6, 0) ⟨by simp, by omega, fun j hj => by dsimp only at hj; omega, fun j h1 h2 => by dsimp only; rw [List.getElem?_replicate, if_pos h2]⟩ (by repeat (first | exact trivial | refine ⟨has_rfl rfl, ?_⟩ | refine ⟨has_nil rfl, ?_⟩ | refine ⟨has_nilS rfl, ?_⟩ | refine ⟨has_gr rfl, ?_⟩ | refine ⟨has_int rfl (by first | omega | (simp only [List.length_append, List.length_singleton]; omega)), ?_⟩)) ?_
  rintro ⟨l, i⟩ ⟨hll, hi, hl1, hl2⟩ ih
  dsimp only at hll hi hl1 hl2 ih ⊢
  by_cases hlt : i < K
  · have hv := hl2 i (Nat.le_refl _) hlt
    (repeat (first | refine c_seq ?_ | refine c_reg ?_ | refine c_rnil ?_ | refine c_block ?_ | refine c_inBlock ?_ | refine c_exit ?_ | refine c_skip ?_ | refine c_label ?_ | refine c_true ?_ | refine c_false ?_ | refine c_yes ?_ | refine c_no ?_ | refine c_op (by first | exact t_moveG | exact t_move | exact t_moveO | exact t_assignG | exact t_assignO | exact t_assign | exact t_pickT | exact t_pickF | exact t_add | exact t_sub | exact t_neg | exact t_not | exact t_min | exact t_max | exact t_lssT | exact t_lssF | exact t_lss | exact t_leqT | exact t_leqF | exact t_leq | exact t_gtrT | exact t_gtrF | exact t_gtr | exact t_geqT | exact t_geqF | exact t_geq | exact t_eqlT | exact t_eqlF | exact t_eql | exact t_neqT | exact t_neqF | exact t_neq | exact t_ext0 | exact t_ext1 | exact t_ext30 | exact t_ext31 | exact t_ext32 | exact t_len | exact t_lenN | exact t_lenR | exact t_idxN | exact t_idx | exact t_load | exact t_fa | exact t_fv | exact t_bl | exact t_sliceG | exact t_sliceLHN | exact t_sliceLN | exact t_sliceHN | exact t_sliceLH | exact t_sliceL | exact t_sliceH | exact t_bs | exact t_quo | exact t_rem | exact t_boxP) ?_ | refine c_opW t_app ?_))
    refine c_draw {} 9 1 [] [] mixed (by kernel_rfl) rfl rfl ?_
    (repeat (first | refine d_op (by first | exact (t_idxRN 100) | exact (t_loadRE 100 (hv := hv)) | exact t_moveG | exact t_move | exact t_moveO | exact t_assignG | exact t_assignO | exact t_assign | exact t_pickT | exact t_pickF | exact t_add | exact t_sub | exact t_neg | exact t_not | exact t_min | exact t_max | exact t_lssT | exact t_lssF | exact t_lss | exact t_leqT | exact t_leqF | exact t_leq | exact t_gtrT | exact t_gtrF | exact t_gtr | exact t_geqT | exact t_geqF | exact t_geq | exact t_eqlT | exact t_eqlF | exact t_eql | exact t_neqT | exact t_neqF | exact t_neq | exact t_ext0 | exact t_ext1 | exact t_ext30 | exact t_ext31 | exact t_ext32 | exact t_len | exact t_lenN | exact t_lenR | exact t_idxN | exact t_idx | exact t_load | exact t_fa | exact t_fv | exact t_bl | exact t_sliceG | exact t_sliceLHN | exact t_sliceLN | exact t_sliceHN | exact t_sliceLH | exact t_sliceL | exact t_sliceH | exact t_bs | exact t_quo | exact t_rem | exact t_boxP) ?_ | refine d_yes (by first | exact (t_idxRN 100) | exact (t_loadRE 100 (hv := hv)) | exact t_moveG | exact t_move | exact t_moveO | exact t_assignG | exact t_assignO | exact t_assign | exact t_pickT | exact t_pickF | exact t_add | exact t_sub | exact t_neg | exact t_not | exact t_min | exact t_max | exact t_lssT | exact t_lssF | exact t_lss | exact t_leqT | exact t_leqF | exact t_leq | exact t_gtrT | exact t_gtrF | exact t_gtr | exact t_geqT | exact t_geqF | exact t_geq | exact t_eqlT | exact t_eqlF | exact t_eql | exact t_neqT | exact t_neqF | exact t_neq | exact t_ext0 | exact t_ext1 | exact t_ext30 | exact t_ext31 | exact t_ext32 | exact t_len | exact t_lenN | exact t_lenR | exact t_idxN | exact t_idx | exact t_load | exact t_fa | exact t_fv | exact t_bl | exact t_sliceG | exact t_sliceLHN | exact t_sliceLN | exact t_sliceHN | exact t_sliceLH | exact t_sliceL | exact t_sliceH | exact t_bs | exact t_quo | exact t_rem | exact t_boxP) ?_ | refine d_no ?_))
    refine d_nil ?_
    refine q_st 9 100 (by kernel_rfl) rfl (t_st 100) ?_
    refine q_nil ?_ (by kernel_rfl)
    have hset : ∀ (v : Int), v = gapV w m i → ∀ l' : List Int, l'.length = K → (∀ j, j ≠ i → l'[j]? = l[j]?) → l'[i]? = some v → (l'.length = K ∧ i + 1 ≤ K ∧ (∀ j, j < i + 1 → l'[j]? = some (gapV w m j)) ∧ ∀ j, i + 1 ≤ j → j < K → l'[j]? = some 6) := fun v hv l' h1 h2 h3 => by
      refine ⟨h1, by omega, fun j hj => ?_, fun j h4 h5 => ?_⟩
      · rcases Nat.lt_or_ge j i with h | h
        · rw [h2 j (by omega), hl1 j h]
        · rw [show j = i by omega, h3, hv]
      · rw [h2 j (by omega), hl2 j (by omega) h5]
    (repeat (first | refine c_seq ?_ | refine c_reg ?_ | refine c_rnil ?_ | refine c_block ?_ | refine c_inBlock ?_ | refine c_exit ?_ | refine c_skip ?_ | refine c_label ?_ | refine c_true ?_ | refine c_false ?_ | refine c_yes ?_ | refine c_no ?_ | refine c_op (by first | exact t_moveG | exact t_move | exact t_moveO | exact t_assignG | exact t_assignO | exact t_assign | exact t_pickT | exact t_pickF | exact t_add | exact t_sub | exact t_neg | exact t_not | exact t_min | exact t_max | exact t_lssT | exact t_lssF | exact t_lss | exact t_leqT | exact t_leqF | exact t_leq | exact t_gtrT | exact t_gtrF | exact t_gtr | exact t_geqT | exact t_geqF | exact t_geq | exact t_eqlT | exact t_eqlF | exact t_eql | exact t_neqT | exact t_neqF | exact t_neq | exact t_ext0 | exact t_ext1 | exact t_ext30 | exact t_ext31 | exact t_ext32 | exact t_len | exact t_lenN | exact t_lenR | exact t_idxN | exact t_idx | exact t_load | exact t_fa | exact t_fv | exact t_bl | exact t_sliceG | exact t_sliceLHN | exact t_sliceLN | exact t_sliceHN | exact t_sliceLH | exact t_sliceL | exact t_sliceH | exact t_bs | exact t_quo | exact t_rem | exact t_boxP) ?_ | refine c_opW t_app ?_))
    refine c_if (fun hr => ?_) fun hr => ?_
    · have hv2 : (l.set i (6 + (slk m w).tdiv ((w.length : Int) - 1)))[i]? = some (6 + (slk m w).tdiv ((w.length : Int) - 1)) := by rw [List.getElem?_set_self (by omega)]
      (repeat (first | refine c_seq ?_ | refine c_reg ?_ | refine c_rnil ?_ | refine c_block ?_ | refine c_inBlock ?_ | refine c_exit ?_ | refine c_skip ?_ | refine c_label ?_ | refine c_true ?_ | refine c_false ?_ | refine c_yes ?_ | refine c_no ?_ | refine (c_st 100 (t_st 100)) ?_ | refine c_op (by first | exact (t_idxRN 100 (h0 := by omega)) | exact (t_loadRE 100 (hv := hv2)) | exact t_moveG | exact t_move | exact t_moveO | exact t_assignG | exact t_assignO | exact t_assign | exact t_pickT | exact t_pickF | exact t_add | exact t_sub | exact t_neg | exact t_not | exact t_min | exact t_max | exact t_lssT | exact t_lssF | exact t_lss | exact t_leqT | exact t_leqF | exact t_leq | exact t_gtrT | exact t_gtrF | exact t_gtr | exact t_geqT | exact t_geqF | exact t_geq | exact t_eqlT | exact t_eqlF | exact t_eql | exact t_neqT | exact t_neqF | exact t_neq | exact t_ext0 | exact t_ext1 | exact t_ext30 | exact t_ext31 | exact t_ext32 | exact t_len | exact t_lenN | exact t_lenR | exact t_idxN | exact t_idx | exact t_load | exact t_fa | exact t_fv | exact t_bl | exact t_sliceG | exact t_sliceLHN | exact t_sliceLN | exact t_sliceHN | exact t_sliceLH | exact t_sliceL | exact t_sliceH | exact t_bs | exact t_quo | exact t_rem | exact t_boxP) ?_ | refine c_opW t_app ?_))
      refine (ih ((l.set i (6 + (slk m w).tdiv ((w.length : Int) - 1))).set i (6 + (slk m w).tdiv ((w.length : Int) - 1) + 1), i + 1) (hset (6 + (slk m w).tdiv ((w.length : Int) - 1) + 1) ?_ _ ?_ ?_ ?_) (by dsimp only; omega)).sub (by repeat (first | exact trivial | refine ⟨has_rfl rfl, ?_⟩ | refine ⟨has_nil rfl, ?_⟩ | refine ⟨has_nilS rfl, ?_⟩ | refine ⟨has_gr rfl, ?_⟩ | refine ⟨has_int rfl (by first | omega | (simp only [List.length_append, List.length_singleton]; omega)), ?_⟩))
      · unfold gapV
        rw [if_pos hr]
      · rw [List.length_set, List.length_set, hll]
      · intro j hj
        rw [List.getElem?_set_ne (by omega), List.getElem?_set_ne (by omega)]
      · rw [List.getElem?_set_self (by rw [List.length_set]; omega)]
    · (repeat (first | refine c_seq ?_ | refine c_reg ?_ | refine c_rnil ?_ | refine c_block ?_ | refine c_inBlock ?_ | refine c_exit ?_ | refine c_skip ?_ | refine c_label ?_ | refine c_true ?_ | refine c_false ?_ | refine c_yes ?_ | refine c_no ?_ | refine c_op (by first | exact t_moveG | exact t_move | exact t_moveO | exact t_assignG | exact t_assignO | exact t_assign | exact t_pickT | exact t_pickF | exact t_add | exact t_sub | exact t_neg | exact t_not | exact t_min | exact t_max | exact t_lssT | exact t_lssF | exact t_lss | exact t_leqT | exact t_leqF | exact t_leq | exact t_gtrT | exact t_gtrF | exact t_gtr | exact t_geqT | exact t_geqF | exact t_geq | exact t_eqlT | exact t_eqlF | exact t_eql | exact t_neqT | exact t_neqF | exact t_neq | exact t_ext0 | exact t_ext1 | exact t_ext30 | exact t_ext31 | exact t_ext32 | exact t_len | exact t_lenN | exact t_lenR | exact t_idxN | exact t_idx | exact t_load | exact t_fa | exact t_fv | exact t_bl | exact t_sliceG | exact t_sliceLHN | exact t_sliceLN | exact t_sliceHN | exact t_sliceLH | exact t_sliceL | exact t_sliceH | exact t_bs | exact t_quo | exact t_rem | exact t_boxP) ?_ | refine c_opW t_app ?_))
      refine (ih (l.set i (6 + (slk m w).tdiv ((w.length : Int) - 1)), i + 1) (hset (6 + (slk m w).tdiv ((w.length : Int) - 1)) ?_ _ ?_ ?_ ?_) (by dsimp only; omega)).sub (by repeat (first | exact trivial | refine ⟨has_rfl rfl, ?_⟩ | refine ⟨has_nil rfl, ?_⟩ | refine ⟨has_nilS rfl, ?_⟩ | refine ⟨has_gr rfl, ?_⟩ | refine ⟨has_int rfl (by first | omega | (simp only [List.length_append, List.length_singleton]; omega)), ?_⟩))
      · unfold gapV
        rw [if_neg hr, Int.add_zero]
      · rw [List.length_set, hll]
      · intro j hj
        rw [List.getElem?_set_ne (by omega)]
      · rw [List.getElem?_set_self (by omega)]
  · have e : l = gapsM w m false := by
      apply List.ext_getElem?
      intro j
      rcases Nat.lt_or_ge j K with h | h
      · rw [hl1 j (by omega), List.getElem?_eq_getElem (by rw [gapsM_len]; omega), gapsM_get]
        rfl
      · rw [List.getElem?_eq_none (by omega), List.getElem?_eq_none (by rw [gapsM_len]; omega)]
    subst e
    refine c_frz 8 100 ?_ (hn := by rw [gapsM_len]; omega)
    (repeat (first | refine c_seq ?_ | refine c_reg ?_ | refine c_rnil ?_ | refine c_block ?_ | refine c_inBlock ?_ | refine c_exit ?_ | refine c_skip ?_ | refine c_label ?_ | refine c_true ?_ | refine c_false ?_ | refine c_yes ?_ | refine c_no ?_ | refine c_op (by first | exact t_moveG | exact t_move | exact t_moveO | exact t_assignG | exact t_assignO | exact t_assign | exact t_pickT | exact t_pickF | exact t_add | exact t_sub | exact t_neg | exact t_not | exact t_min | exact t_max | exact t_lssT | exact t_lssF | exact t_lss | exact t_leqT | exact t_leqF | exact t_leq | exact t_gtrT | exact t_gtrF | exact t_gtr | exact t_geqT | exact t_geqF | exact t_geq | exact t_eqlT | exact t_eqlF | exact t_eql | exact t_neqT | exact t_neqF | exact t_neq | exact t_ext0 | exact t_ext1 | exact t_ext30 | exact t_ext31 | exact t_ext32 | exact t_len | exact t_lenN | exact t_lenR | exact t_idxN | exact t_idx | exact t_load | exact t_fa | exact t_fv | exact t_bl | exact t_sliceG | exact t_sliceLHN | exact t_sliceLN | exact t_sliceHN | exact t_sliceLH | exact t_sliceL | exact t_sliceH | exact t_bs | exact t_quo | exact t_rem | exact t_boxP) ?_ | refine c_opW t_app ?_))
    refine c_ret1 Try.func41 rfl ?_
    exact fun h => h

set_option maxHeartbeats 1000000 in
theorem gapsR_f {w : List Int} {m : Int} {last : Bool} (hm : 0 ≤ m ∧ m ≤ 2000) (hl : w.length ≤ 500) (hw : ∀ x ∈ w, 1 ≤ x ∧ x ≤ 480) :
    Fn Try.prog 42 [pSl eI w, pI m, pB last] (pSl eI (gapsM w m last)) := by
  refine fn_of ent42 Try.func42 rfl Try.ntmps42 rfl fun M0 w0 => ?_
  have hbd := slk_bd (m := m) hl hw
  (repeat (first | refine c_seq ?_ | refine c_reg ?_ | refine c_rnil ?_ | refine c_block ?_ | refine c_inBlock ?_ | refine c_exit ?_ | refine c_skip ?_ | refine c_label ?_ | refine c_true ?_ | refine c_false ?_ | refine c_yes ?_ | refine c_no ?_ | refine c_op (by first | exact t_call (h := (slackR_f hm hl hw)) | exact t_moveG | exact t_move | exact t_moveO | exact t_assignG | exact t_assignO | exact t_assign | exact t_pickT | exact t_pickF | exact t_add | exact t_sub | exact t_neg | exact t_not | exact t_min | exact t_max | exact t_lssT | exact t_lssF | exact t_lss | exact t_leqT | exact t_leqF | exact t_leq | exact t_gtrT | exact t_gtrF | exact t_gtr | exact t_geqT | exact t_geqF | exact t_geq | exact t_eqlT | exact t_eqlF | exact t_eql | exact t_neqT | exact t_neqF | exact t_neq | exact t_ext0 | exact t_ext1 | exact t_ext30 | exact t_ext31 | exact t_ext32 | exact t_len | exact t_lenN | exact t_lenR | exact t_idxN | exact t_idx | exact t_load | exact t_fa | exact t_fv | exact t_bl | exact t_sliceG | exact t_sliceLHN | exact t_sliceLN | exact t_sliceHN | exact t_sliceLH | exact t_sliceL | exact t_sliceH | exact t_bs | exact t_quo | exact t_rem | exact t_boxP) ?_ | refine c_opW t_app ?_))
  refine c_loop (fun i : Nat => [(2, .pu (pB last)), (7, .gr eI ((gapsM w m last).take i) 1 3), (8, .pu (pI ((w.length : Int) - 1))), (9, .pu (pI (slk m w))), (10, .pu (pI i))]) (fun i => i ≤ w.length - 1) (fun i => w.length - i) 0 (by omega) (by repeat (first | exact trivial | refine ⟨has_rfl rfl, ?_⟩ | refine ⟨has_nil rfl, ?_⟩ | refine ⟨has_nilS rfl, ?_⟩ | refine ⟨has_gr rfl, ?_⟩ | refine ⟨has_int rfl (by first | omega | (simp only [List.length_append, List.length_singleton]; omega)), ?_⟩)) fun i hi ih => ?_
  by_cases hlt : (i : Int) < (w.length : Int) - 1
  · have hig : i < (gapsM w m last).length := by rw [gapsM_len]; omega
    have hst : (gapsM w m last).take (i + 1) = (gapsM w m last).take i ++ [if last then 6 else gapV w m i] := by rw [List.take_succ_eq_append_getElem hig, gapsM_get]
    have ht1 := tmod_rng (m := slk m w) (n := (w.length : Int) - 1) (by omega)
    have ht3 := Int.natAbs_tdiv_le_natAbs (slk m w) ((w.length : Int) - 1)
    cases last
    · by_cases hr : (i : Int) < (slk m w).tmod ((w.length : Int) - 1)
      · (repeat (first | refine c_seq ?_ | refine c_reg ?_ | refine c_rnil ?_ | refine c_block ?_ | refine c_inBlock ?_ | refine c_exit ?_ | refine c_skip ?_ | refine c_label ?_ | refine c_true ?_ | refine c_false ?_ | refine c_yes ?_ | refine c_no ?_ | refine c_op (by first | exact t_moveG | exact t_move | exact t_moveO | exact t_assignG | exact t_assignO | exact t_assign | exact t_pickT | exact t_pickF | exact t_add | exact t_sub | exact t_neg | exact t_not | exact t_min | exact t_max | exact t_lssT | exact t_lssF | exact t_lss | exact t_leqT | exact t_leqF | exact t_leq | exact t_gtrT | exact t_gtrF | exact t_gtr | exact t_geqT | exact t_geqF | exact t_geq | exact t_eqlT | exact t_eqlF | exact t_eql | exact t_neqT | exact t_neqF | exact t_neq | exact t_ext0 | exact t_ext1 | exact t_ext30 | exact t_ext31 | exact t_ext32 | exact t_len | exact t_lenN | exact t_lenR | exact t_idxN | exact t_idx | exact t_load | exact t_fa | exact t_fv | exact t_bl | exact t_sliceG | exact t_sliceLHN | exact t_sliceLN | exact t_sliceHN | exact t_sliceLH | exact t_sliceL | exact t_sliceH | exact t_bs | exact t_quo | exact t_rem | exact t_boxP) ?_ | refine c_opW t_app ?_))
        refine (ih (i + 1) (by omega) (by omega)).sub ?_
        (repeat' (first | exact trivial | refine ⟨?_, ?_⟩ | fail)) <;> (try first | exact has_rfl rfl | exact has_nil rfl | exact has_nilS rfl | exact has_gr rfl | exact has_int rfl (by first | omega | (simp only [List.length_append, List.length_singleton]; omega)) | fail)
        refine has_grE rfl ?_
        rw [hst]
        unfold gapV
        rw [if_pos hr]
        rfl
      · (repeat (first | refine c_seq ?_ | refine c_reg ?_ | refine c_rnil ?_ | refine c_block ?_ | refine c_inBlock ?_ | refine c_exit ?_ | refine c_skip ?_ | refine c_label ?_ | refine c_true ?_ | refine c_false ?_ | refine c_yes ?_ | refine c_no ?_ | refine c_op (by first | exact t_moveG | exact t_move | exact t_moveO | exact t_assignG | exact t_assignO | exact t_assign | exact t_pickT | exact t_pickF | exact t_add | exact t_sub | exact t_neg | exact t_not | exact t_min | exact t_max | exact t_lssT | exact t_lssF | exact t_lss | exact t_leqT | exact t_leqF | exact t_leq | exact t_gtrT | exact t_gtrF | exact t_gtr | exact t_geqT | exact t_geqF | exact t_geq | exact t_eqlT | exact t_eqlF | exact t_eql | exact t_neqT | exact t_neqF | exact t_neq | exact t_ext0 | exact t_ext1 | exact t_ext30 | exact t_ext31 | exact t_ext32 | exact t_len | exact t_lenN | exact t_lenR | exact t_idxN | exact t_idx | exact t_load | exact t_fa | exact t_fv | exact t_bl | exact t_sliceG | exact t_sliceLHN | exact t_sliceLN | exact t_sliceHN | exact t_sliceLH | exact t_sliceL | exact t_sliceH | exact t_bs | exact t_quo | exact t_rem | exact t_boxP) ?_ | refine c_opW t_app ?_))
        refine (ih (i + 1) (by omega) (by omega)).sub ?_
        (repeat' (first | exact trivial | refine ⟨?_, ?_⟩ | fail)) <;> (try first | exact has_rfl rfl | exact has_nil rfl | exact has_nilS rfl | exact has_gr rfl | exact has_int rfl (by first | omega | (simp only [List.length_append, List.length_singleton]; omega)) | fail)
        refine has_grE rfl ?_
        rw [hst]
        unfold gapV
        rw [if_neg hr, Int.add_zero]
        rfl
    · (repeat (first | refine c_seq ?_ | refine c_reg ?_ | refine c_rnil ?_ | refine c_block ?_ | refine c_inBlock ?_ | refine c_exit ?_ | refine c_skip ?_ | refine c_label ?_ | refine c_true ?_ | refine c_false ?_ | refine c_yes ?_ | refine c_no ?_ | refine c_op (by first | exact t_moveG | exact t_move | exact t_moveO | exact t_assignG | exact t_assignO | exact t_assign | exact t_pickT | exact t_pickF | exact t_add | exact t_sub | exact t_neg | exact t_not | exact t_min | exact t_max | exact t_lssT | exact t_lssF | exact t_lss | exact t_leqT | exact t_leqF | exact t_leq | exact t_gtrT | exact t_gtrF | exact t_gtr | exact t_geqT | exact t_geqF | exact t_geq | exact t_eqlT | exact t_eqlF | exact t_eql | exact t_neqT | exact t_neqF | exact t_neq | exact t_ext0 | exact t_ext1 | exact t_ext30 | exact t_ext31 | exact t_ext32 | exact t_len | exact t_lenN | exact t_lenR | exact t_idxN | exact t_idx | exact t_load | exact t_fa | exact t_fv | exact t_bl | exact t_sliceG | exact t_sliceLHN | exact t_sliceLN | exact t_sliceHN | exact t_sliceLH | exact t_sliceL | exact t_sliceH | exact t_bs | exact t_quo | exact t_rem | exact t_boxP) ?_ | refine c_opW t_app ?_))
      refine (ih (i + 1) (by omega) (by omega)).sub ?_
      (repeat' (first | exact trivial | refine ⟨?_, ?_⟩ | fail)) <;> (try first | exact has_rfl rfl | exact has_nil rfl | exact has_nilS rfl | exact has_gr rfl | exact has_int rfl (by first | omega | (simp only [List.length_append, List.length_singleton]; omega)) | fail)
      refine has_grE rfl ?_
      rw [hst]
      rfl
  · (repeat (first | refine c_seq ?_ | refine c_reg ?_ | refine c_rnil ?_ | refine c_block ?_ | refine c_inBlock ?_ | refine c_exit ?_ | refine c_skip ?_ | refine c_label ?_ | refine c_true ?_ | refine c_false ?_ | refine c_yes ?_ | refine c_no ?_ | refine c_op (by first | exact t_moveG | exact t_move | exact t_moveO | exact t_assignG | exact t_assignO | exact t_assign | exact t_pickT | exact t_pickF | exact t_add | exact t_sub | exact t_neg | exact t_not | exact t_min | exact t_max | exact t_lssT | exact t_lssF | exact t_lss | exact t_leqT | exact t_leqF | exact t_leq | exact t_gtrT | exact t_gtrF | exact t_gtr | exact t_geqT | exact t_geqF | exact t_geq | exact t_eqlT | exact t_eqlF | exact t_eql | exact t_neqT | exact t_neqF | exact t_neq | exact t_ext0 | exact t_ext1 | exact t_ext30 | exact t_ext31 | exact t_ext32 | exact t_len | exact t_lenN | exact t_lenR | exact t_idxN | exact t_idx | exact t_load | exact t_fa | exact t_fv | exact t_bl | exact t_sliceG | exact t_sliceLHN | exact t_sliceLN | exact t_sliceHN | exact t_sliceLH | exact t_sliceL | exact t_sliceH | exact t_bs | exact t_quo | exact t_rem | exact t_boxP) ?_ | refine c_opW t_app ?_))
    refine c_ret1 Try.func42 rfl ?_
    rw [List.take_of_length_le (by rw [gapsM_len]; omega)]
    exact fun h => h

end Go.Proofs.Ytocoinkhbjlbhaa
