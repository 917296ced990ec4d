/-
  What the functions of layer 26 and of its reference do: the best ends.
-/
import Derived.Test.YtocoinkhbjlbhaaT26c
import Derived.Scope
namespace Go.Proofs.Ytocoinkhbjlbhaa
open Go Go.RowKit

theorem has_pu {G : TF} {t : Nat} {p q : Pub} (h : tlook G t = some (.pu p)) (e : p = q) : Has G t (.pu q) := e ▸ has_rfl h
theorem has_rwE {G : TF} {t : Nat} {α : Type} {E : Enc α} {b tag : Nat} {l l' : List α} {ty : TypeId} (h : tlook G t = some (.rw b tag E l ty)) (e : l = l') : Has G t (.rw b tag E l' ty) := e ▸ has_rfl h

section
variable {P : Program} {f : FuncId} {N : Nat} {M0 : Mut} {w0 : World} {R : Value → World → Prop} {G : TF} {k : List Item}
theorem c_scope {c : Code} (h : Rt P f N M0 w0 (.code c :: .inScope c :: k) G R) : Rt P f N M0 w0 (.code (.scope c) :: k) G R := ⟨fun hr hf => ⟨fun a ha => ((h.out hr hf).out a ha).step fun _ _ => .one step_scope⟩⟩
theorem c_inScope {c : Code} (h : Rt P f N M0 w0 k G R) : Rt P f N M0 w0 (.inScope c :: k) G R := ⟨fun hr hf => ⟨fun a ha => ((h.out hr hf).out a ha).step fun _ _ => .one step_inScope⟩⟩
end

section
variable {P : Program} {N : Nat} {G : TF} {d : Option Tmp} {ty : TypeId} {pos : String} {aft : Array Edge} {g : Option (Nat × Bool)}
theorem t_idxRN {α : Type} {E : Enc α} {x i : Operand} {b len tag : Nat} {l : List α} {t e : TypeId} {k : IntKind} {n : Nat} (key : Nat) (hx : topP G x = some (pSr b len) := by rfl) (hi : topP G i = some (pK k (n : Int)) := by rfl)
    (hg : tlook G key = some (.rw b tag E l e) := by rfl) (ht : USl P t e := by infer_instance) (hE : TEc P e E := by infer_instance) (h0 : n < len := by omega) :
    TOp P N ⟨d, .indexAddr t x i, ty, pos, aft, g⟩ G [] (.pu (pRo b E n)) := t_idxR key hx hi hg ht hE (by omega)
end

/-- What is kept while the search goes from the end to the beginning. -/
def rowC (m : Int) (w : List Int) (k : Nat) : List Int := List.replicate k 0 ++ (dpl m (w.drop k) k).map (·.1)
def rowE (m : Int) (w : List Int) (k : Nat) : List Int := List.replicate k 0 ++ (dpl m (w.drop k) k).map (·.2)

section
variable {m : Int} {w : List Int}
theorem rowC_len {k : Nat} (hk : k ≤ w.length) : (rowC m w k).length = w.length + 1 := by
  unfold rowC
  rw [List.length_append, List.length_replicate, List.length_map, dpl_len, List.length_drop]
  omega
theorem rowE_len {k : Nat} (hk : k ≤ w.length) : (rowE m w k).length = w.length + 1 := by
  unfold rowE
  rw [List.length_append, List.length_replicate, List.length_map, dpl_len, List.length_drop]
  omega
theorem dpl_at {k j : Nat} (hk : k ≤ w.length) (hj : j ≤ w.length - k) : (dpl m (w.drop k) k)[j]? = some (at26 (dpl m w 0) (k + j)) := by
  rw [at_drop m w k j hk]
  unfold at26
  have hl := dpl_len m (w.drop k) k
  rw [List.length_drop] at hl
  rw [List.getElem?_eq_getElem (by omega), Option.getD_some]
theorem rowC_get {k j : Nat} (hk : k ≤ j) (hj : j ≤ w.length) : (rowC m w k)[j]? = some (at26 (dpl m w 0) j).1 := by
  unfold rowC
  rw [List.getElem?_append_right (by simpa using hk), List.length_replicate, List.getElem?_map, dpl_at (by omega) (by omega), show k + (j - k) = j by omega]
  rfl
theorem rowE_get {k j : Nat} (hk : k ≤ j) (hj : j ≤ w.length) : (rowE m w k)[j]? = some (at26 (dpl m w 0) j).2 := by
  unfold rowE
  rw [List.getElem?_append_right (by simpa using hk), List.length_replicate, List.getElem?_map, dpl_at (by omega) (by omega), show k + (j - k) = j by omega]
  rfl
theorem dpl_head {i : Nat} (hi : i < w.length) : dpl m (w.drop i) i = at26 (dpl m w 0) i :: dpl m (w.drop (i + 1)) (i + 1 : Nat) := by
  have h0 := dpl_at (m := m) (w := w) (k := i) (j := 0) (by omega) (by omega)
  have hd := dpl_drop m (w.drop i) i 1 (by rw [List.length_drop]; omega)
  rw [List.drop_drop] at hd
  have hl := dpl_len m (w.drop i) i
  cases hc : dpl m (w.drop i) i with
  | nil => rw [hc] at hl; simp at hl
  | cons p r =>
    rw [hc] at h0 hd
    simp only [List.getElem?_cons_zero, Nat.add_zero, Option.some.injEq] at h0
    simp only [List.drop_succ_cons, List.drop_zero] at hd
    rw [h0, hd]
    rfl
theorem rowC_set {i : Nat} (hi : i < w.length) : (rowC m w (i + 1)).set i (at26 (dpl m w 0) i).1 = rowC m w i := by
  unfold rowC
  rw [dpl_head hi, List.map_cons, List.replicate_succ', List.append_assoc, List.set_append_right _ _ (by simp), List.length_replicate, Nat.sub_self]
  rfl
theorem rowE_set {i : Nat} (hi : i < w.length) : (rowE m w (i + 1)).set i (at26 (dpl m w 0) i).2 = rowE m w i := by
  unfold rowE
  rw [dpl_head hi, List.map_cons, List.replicate_succ', List.append_assoc, List.set_append_right _ _ (by simp), List.length_replicate, Nat.sub_self]
  rfl
theorem rowC_end : rowC m w w.length = List.replicate (w.length + 1) 0 := by
  unfold rowC
  rw [List.drop_length, dpl, List.replicate_succ']
  rfl
theorem rowE_end : rowE m w w.length = List.replicate (w.length + 1) 0 := by
  unfold rowE
  rw [List.drop_length, dpl, List.replicate_succ']
  rfl
theorem at_inn {i : Nat} (hi : i < w.length) : at26 (dpl m w 0) i = inn m (w.drop i) (dpl m (w.drop (i + 1)) (i + 1 : Nat)) (i + 1) (m + 6) (-1) 0 := by
  have := dpl_head (m := m) hi
  rw [List.drop_eq_getElem_cons hi, dpl] at this
  have := (List.cons.inj this).1
  rw [List.drop_eq_getElem_cons hi]
  exact this.symm

/-- One step of the search. -/
theorem inn_step {i kk : Nat} (hi : i + kk < w.length) {j s c e : Int} : inn m ((w.drop i).drop kk) ((dpl m (w.drop (i + 1)) (i + 1 : Nat)).drop kk) j s c e =
    if s - (w[i + kk] + 6) < 0 then (c, e)
    else if i + kk + 1 = w.length then (0, j)
    else if c < 0 ∨ (s - (w[i + kk] + 6)) * (s - (w[i + kk] + 6)) + (at26 (dpl m w 0) (i + 1 + kk)).1 ≤ c then
      inn m ((w.drop i).drop (kk + 1)) ((dpl m (w.drop (i + 1)) (i + 1 : Nat)).drop (kk + 1)) (j + 1) (s - (w[i + kk] + 6)) ((s - (w[i + kk] + 6)) * (s - (w[i + kk] + 6)) + (at26 (dpl m w 0) (i + 1 + kk)).1) j
    else inn m ((w.drop i).drop (kk + 1)) ((dpl m (w.drop (i + 1)) (i + 1 : Nat)).drop (kk + 1)) (j + 1) (s - (w[i + kk] + 6)) c e := by
  have h1 : (w.drop i).drop kk = w[i + kk] :: (w.drop i).drop (kk + 1) := by
    rw [List.drop_eq_getElem_cons (by rw [List.length_drop]; omega), List.getElem_drop]
  have hg := dpl_at (m := m) (w := w) (k := i + 1) (j := kk) (by omega) (by omega)
  have hl := dpl_len m (w.drop (i + 1)) (i + 1 : Nat)
  rw [List.length_drop] at hl
  obtain ⟨q1, q2⟩ := List.getElem?_eq_some_iff.1 hg
  have h2 : (dpl m (w.drop (i + 1)) (i + 1 : Nat)).drop kk = at26 (dpl m w 0) (i + 1 + kk) :: (dpl m (w.drop (i + 1)) (i + 1 : Nat)).drop (kk + 1) := by
    rw [List.drop_eq_getElem_cons q1, q2]
  rw [h1, h2, inn]
  have h3 : (w.drop i).drop (kk + 1) = [] ↔ i + kk + 1 = w.length := by
    rw [List.drop_drop, List.drop_eq_nil_iff]
    omega
  by_cases he : i + kk + 1 = w.length
  · rw [if_pos (h3.2 he), if_pos he]
  · rw [if_neg (fun h => he (h3.1 h)), if_neg he]
end

theorem at_bd {m : Int} (hm : 500 ≤ m ∧ m ≤ 2000) {w : List Int} (hw : ∀ x ∈ w, 1 ≤ x ∧ x ≤ 480) : ∀ (d j : Nat), j ≤ w.length → w.length ≤ j + d → 0 ≤ (at26 (dpl m w 0) j).1 ∧ (at26 (dpl m w 0) j).1 ≤ 4024036 * d
  | 0, j, h1, h2 => by
    have : j = w.length := by omega
    subst this
    have := dpl_at (m := m) (w := w) (k := w.length) (j := 0) (by omega) (by omega)
    rw [List.drop_length, dpl] at this
    simp only [List.getElem?_cons_zero, Option.some.injEq, Nat.add_zero] at this
    rw [← this]
    simp
  | d + 1, j, h1, h2 => by
    rcases Nat.eq_or_lt_of_le h1 with h | h
    · have := at_bd hm hw 0 j h1 (by omega)
      omega
    · have hB := at_best m hm.1 hw j h
      have hul : (w.drop j).length = w.length - j := List.length_drop
      have hlo := hB.lo
      have hhi := hB.hi
      obtain ⟨k, hk⟩ : ∃ k : Nat, (at26 (dpl m w 0) j).2 = ((j + k : Nat) : Int) := ⟨((at26 (dpl m w 0) j).2 - j).toNat, by omega⟩
      have heq := hB.eq
      have hfit := hB.fit
      rw [hk] at heq hfit
      rw [show (((j + k : Nat) : Int) - (j : Int)).toNat = k by omega] at heq hfit
      rw [cand_at m w j k h (by omega)] at heq
      split at heq
      · omega
      · have ih := at_bd hm hw d (j + k) (by omega) (by omega)
        have hsl := slk_bd (m := m) (l := (w.drop j).take k) (k := (w.drop j).length) (by rw [List.length_take]; omega) (fun x hx => hw x (List.mem_of_mem_drop (List.mem_of_mem_take hx)))
        have h3 := sq_nonneg (slk m ((w.drop j).take k))
        have h4 : slk m ((w.drop j).take k) * slk m ((w.drop j).take k) ≤ 4024036 := Int.le_trans (Int.mul_le_mul (show _ ≤ (2006 : Int) by omega) (show _ ≤ (2006 : Int) by omega) (by omega) (by omega)) (by decide)
        omega

theorem set_same {l : List Int} {i : Nat} {v : Int} (h : l[i]? = some v) : l.set i v = l := by
  apply List.ext_getElem?
  intro j
  rw [List.getElem?_set]
  split
  · rename_i hj
    subst hj
    obtain ⟨h1, _⟩ := List.getElem?_eq_some_iff.1 h
    rw [if_pos h1, h]
  · rfl
theorem rowC_zero {m : Int} {w : List Int} {i : Nat} (_hi : i < w.length) : (rowC m w (i + 1))[i]? = some 0 := by
  unfold rowC
  rw [List.getElem?_append_left (by simp)]
  simp
theorem rowE_zero {m : Int} {w : List Int} {i : Nat} (_hi : i < w.length) : (rowE m w (i + 1))[i]? = some 0 := by
  unfold rowE
  rw [List.getElem?_append_left (by simp)]
  simp

set_option maxRecDepth 8000 in
set_option maxHeartbeats 4000000 in
theorem ends_f {w : List Int} {m : Int} : Fn Try.prog 38 [pSl eI w, pI m] (pT2 (pSl eI (if chk26 w m = 0 then endsM w m else [])) (pI (chk26 w m))) := by
  refine fn_of ent38 Try.func38 rfl Try.ntmps38 rfl fun M0 w0 => ?_
  refine c_have 0 (fun h => i_len26 h) fun hl1 => ?_
  by_cases hchk : chk26 w m = 0
  case neg =>
    rw [if_neg hchk]
    (repeat (first | refine c_seq ?_ | refine c_reg ?_ | refine c_rnil ?_ | refine c_block ?_ | refine c_inBlock ?_ | refine c_exit ?_ | refine c_skip ?_ | refine c_label ?_ | refine c_true ?_ | refine c_false ?_ | refine c_yes ?_ | refine c_no ?_ | refine c_op (by first | exact t_call (h := check_f) | exact t_moveG | exact t_move | exact t_moveO | exact t_assignG | exact t_assignO | exact t_assign | exact t_pickT | exact t_pickF | exact t_add | exact t_sub | exact t_neg | exact t_not | exact t_min | exact t_max | exact t_lssT | exact t_lssF | exact t_lss | exact t_leqT | exact t_leqF | exact t_leq | exact t_gtrT | exact t_gtrF | exact t_gtr | exact t_geqT | exact t_geqF | exact t_geq | exact t_eqlT | exact t_eqlF | exact t_eql | exact t_neqT | exact t_neqF | exact t_neq | exact t_ext0 | exact t_ext1 | exact t_ext30 | exact t_ext31 | exact t_ext32 | exact t_len | exact t_lenN | exact t_lenR | exact t_idxN | exact t_idx | exact t_load | exact t_fa | exact t_fv | exact t_bl | exact t_sliceG | exact t_sliceLHN | exact t_sliceLN | exact t_sliceHN | exact t_sliceLH | exact t_sliceL | exact t_sliceH | exact t_bs | exact t_quo | exact t_rem | exact t_boxP) ?_ | refine c_opW t_app ?_))
    refine c_ret2 Try.func38 rfl ?_
    exact fun h1 h2 => ⟨_, _, rfl, by rw [show _ = _ from h1]; exact SlOf.nil _ _ _, h2⟩
  rw [if_pos hchk, hchk]
  obtain ⟨hn, hm1, hm2, hw⟩ := chk26_ok hchk
  (repeat (first | refine c_seq ?_ | refine c_reg ?_ | refine c_rnil ?_ | refine c_block ?_ | refine c_inBlock ?_ | refine c_exit ?_ | refine c_skip ?_ | refine c_label ?_ | refine c_true ?_ | refine c_false ?_ | refine c_yes ?_ | refine c_no ?_ | refine c_op (by first | exact t_call (h := check_f) | exact t_moveG | exact t_move | exact t_moveO | exact t_assignG | exact t_assignO | exact t_assign | exact t_pickT | exact t_pickF | exact t_add | exact t_sub | exact t_neg | exact t_not | exact t_min | exact t_max | exact t_lssT | exact t_lssF | exact t_lss | exact t_leqT | exact t_leqF | exact t_leq | exact t_gtrT | exact t_gtrF | exact t_gtr | exact t_geqT | exact t_geqF | exact t_geq | exact t_eqlT | exact t_eqlF | exact t_eql | exact t_neqT | exact t_neqF | exact t_neq | exact t_ext0 | exact t_ext1 | exact t_ext30 | exact t_ext31 | exact t_ext32 | exact t_len | exact t_lenN | exact t_lenR | exact t_idxN | exact t_idx | exact t_load | exact t_fa | exact t_fv | exact t_bl | exact t_sliceG | exact t_sliceLHN | exact t_sliceLN | exact t_sliceHN | exact t_sliceLH | exact t_sliceL | exact t_sliceH | exact t_bs | exact t_quo | exact t_rem | exact t_boxP) ?_ | refine c_opW t_app ?_))
  refine c_draw0 mixed (by kernel_rfl) ?_
  (repeat (first | refine d_op (by first | exact t_moveG | exact t_move | exact t_moveO | exact t_assignG | exact t_assignO | exact t_assign | exact t_pickT | exact t_pickF | exact t_add | exact t_sub | exact t_neg | exact t_not | exact t_min | exact t_max | exact t_lssT | exact t_lssF | exact t_lss | exact t_leqT | exact t_leqF | exact t_leq | exact t_gtrT | exact t_gtrF | exact t_gtr | exact t_geqT | exact t_geqF | exact t_geq | exact t_eqlT | exact t_eqlF | exact t_eql | exact t_neqT | exact t_neqF | exact t_neq | exact t_ext0 | exact t_ext1 | exact t_ext30 | exact t_ext31 | exact t_ext32 | exact t_len | exact t_lenN | exact t_lenR | exact t_idxN | exact t_idx | exact t_load | exact t_fa | exact t_fv | exact t_bl | exact t_sliceG | exact t_sliceLHN | exact t_sliceLN | exact t_sliceHN | exact t_sliceLH | exact t_sliceL | exact t_sliceH | exact t_bs | exact t_quo | exact t_rem | exact t_boxP) ?_ | refine d_yes (by first | exact t_moveG | exact t_move | exact t_moveO | exact t_assignG | exact t_assignO | exact t_assign | exact t_pickT | exact t_pickF | exact t_add | exact t_sub | exact t_neg | exact t_not | exact t_min | exact t_max | exact t_lssT | exact t_lssF | exact t_lss | exact t_leqT | exact t_leqF | exact t_leq | exact t_gtrT | exact t_gtrF | exact t_gtr | exact t_geqT | exact t_geqF | exact t_geq | exact t_eqlT | exact t_eqlF | exact t_eql | exact t_neqT | exact t_neqF | exact t_neq | exact t_ext0 | exact t_ext1 | exact t_ext30 | exact t_ext31 | exact t_ext32 | exact t_len | exact t_lenN | exact t_lenR | exact t_idxN | exact t_idx | exact t_load | exact t_fa | exact t_fv | exact t_bl | exact t_sliceG | exact t_sliceLHN | exact t_sliceLN | exact t_sliceHN | exact t_sliceLH | exact t_sliceL | exact t_sliceH | exact t_bs | exact t_quo | exact t_rem | exact t_boxP) ?_ | refine d_no ?_))
  refine d_op (t_mk 1) ?_
  (repeat (first | refine d_op (by first | exact t_moveG | exact t_move | exact t_moveO | exact t_assignG | exact t_assignO | exact t_assign | exact t_pickT | exact t_pickF | exact t_add | exact t_sub | exact t_neg | exact t_not | exact t_min | exact t_max | exact t_lssT | exact t_lssF | exact t_lss | exact t_leqT | exact t_leqF | exact t_leq | exact t_gtrT | exact t_gtrF | exact t_gtr | exact t_geqT | exact t_geqF | exact t_geq | exact t_eqlT | exact t_eqlF | exact t_eql | exact t_neqT | exact t_neqF | exact t_neq | exact t_ext0 | exact t_ext1 | exact t_ext30 | exact t_ext31 | exact t_ext32 | exact t_len | exact t_lenN | exact t_lenR | exact t_idxN | exact t_idx | exact t_load | exact t_fa | exact t_fv | exact t_bl | exact t_sliceG | exact t_sliceLHN | exact t_sliceLN | exact t_sliceHN | exact t_sliceLH | exact t_sliceL | exact t_sliceH | exact t_bs | exact t_quo | exact t_rem | exact t_boxP) ?_ | refine d_yes (by first | exact t_moveG | exact t_move | exact t_moveO | exact t_assignG | exact t_assignO | exact t_assign | exact t_pickT | exact t_pickF | exact t_add | exact t_sub | exact t_neg | exact t_not | exact t_min | exact t_max | exact t_lssT | exact t_lssF | exact t_lss | exact t_leqT | exact t_leqF | exact t_leq | exact t_gtrT | exact t_gtrF | exact t_gtr | exact t_geqT | exact t_geqF | exact t_geq | exact t_eqlT | exact t_eqlF | exact t_eql | exact t_neqT | exact t_neqF | exact t_neq | exact t_ext0 | exact t_ext1 | exact t_ext30 | exact t_ext31 | exact t_ext32 | exact t_len | exact t_lenN | exact t_lenR | exact t_idxN | exact t_idx | exact t_load | exact t_fa | exact t_fv | exact t_bl | exact t_sliceG | exact t_sliceLHN | exact t_sliceLN | exact t_sliceHN | exact t_sliceLH | exact t_sliceL | exact t_sliceH | exact t_bs | exact t_quo | exact t_rem | exact t_boxP) ?_ | refine d_no ?_))
  refine d_op (t_mk 2) ?_
  (repeat (first | refine d_op (by first | exact t_moveG | exact t_move | exact t_moveO | exact t_assignG | exact t_assignO | exact t_assign | exact t_pickT | exact t_pickF | exact t_add | exact t_sub | exact t_neg | exact t_not | exact t_min | exact t_max | exact t_lssT | exact t_lssF | exact t_lss | exact t_leqT | exact t_leqF | exact t_leq | exact t_gtrT | exact t_gtrF | exact t_gtr | exact t_geqT | exact t_geqF | exact t_geq | exact t_eqlT | exact t_eqlF | exact t_eql | exact t_neqT | exact t_neqF | exact t_neq | exact t_ext0 | exact t_ext1 | exact t_ext30 | exact t_ext31 | exact t_ext32 | exact t_len | exact t_lenN | exact t_lenR | exact t_idxN | exact t_idx | exact t_load | exact t_fa | exact t_fv | exact t_bl | exact t_sliceG | exact t_sliceLHN | exact t_sliceLN | exact t_sliceHN | exact t_sliceLH | exact t_sliceL | exact t_sliceH | exact t_bs | exact t_quo | exact t_rem | exact t_boxP) ?_ | refine d_yes (by first | exact t_moveG | exact t_move | exact t_moveO | exact t_assignG | exact t_assignO | exact t_assign | exact t_pickT | exact t_pickF | exact t_add | exact t_sub | exact t_neg | exact t_not | exact t_min | exact t_max | exact t_lssT | exact t_lssF | exact t_lss | exact t_leqT | exact t_leqF | exact t_leq | exact t_gtrT | exact t_gtrF | exact t_gtr | exact t_geqT | exact t_geqF | exact t_geq | exact t_eqlT | exact t_eqlF | exact t_eql | exact t_neqT | exact t_neqF | exact t_neq | exact t_ext0 | exact t_ext1 | exact t_ext30 | exact t_ext31 | exact t_ext32 | exact t_len | exact t_lenN | exact t_lenR | exact t_idxN | exact t_idx | exact t_load | exact t_fa | exact t_fv | exact t_bl | exact t_sliceG | exact t_sliceLHN | exact t_sliceLN | exact t_sliceHN | exact t_sliceLH | exact t_sliceL | exact t_sliceH | exact t_bs | exact t_quo | exact t_rem | exact t_boxP) ?_ | refine d_no ?_))
  refine d_nil (q_nil ?_ (by kernel_rfl))
  refine c_row 8 100001 fun b1 => c_row 9 100002 fun b2 => ?_
  (repeat (first | refine c_seq ?_ | refine c_reg ?_ | refine c_rnil ?_ | refine c_block ?_ | refine c_inBlock ?_ | refine c_exit ?_ | refine c_skip ?_ | refine c_label ?_ | refine c_true ?_ | refine c_false ?_ | refine c_yes ?_ | refine c_no ?_ | refine c_op (by first | exact t_moveG | exact t_move | exact t_moveO | exact t_assignG | exact t_assignO | exact t_assign | exact t_pickT | exact t_pickF | exact t_add | exact t_sub | exact t_neg | exact t_not | exact t_min | exact t_max | exact t_lssT | exact t_lssF | exact t_lss | exact t_leqT | exact t_leqF | exact t_leq | exact t_gtrT | exact t_gtrF | exact t_gtr | exact t_geqT | exact t_geqF | exact t_geq | exact t_eqlT | exact t_eqlF | exact t_eql | exact t_neqT | exact t_neqF | exact t_neq | exact t_ext0 | exact t_ext1 | exact t_ext30 | exact t_ext31 | exact t_ext32 | exact t_len | exact t_lenN | exact t_lenR | exact t_idxN | exact t_idx | exact t_load | exact t_fa | exact t_fv | exact t_bl | exact t_sliceG | exact t_sliceLHN | exact t_sliceLN | exact t_sliceHN | exact t_sliceLH | exact t_sliceL | exact t_sliceH | exact t_bs | exact t_quo | exact t_rem | exact t_boxP) ?_ | refine c_opW t_app ?_))
  refine c_loop (fun k : Nat => [(0, .pu (pSl eI w)), (1, .pu (pI m)), (7, .pu (pI w.length)), (8, .pu (pSr b1 (w.length + 1))), (9, .pu (pSr b2 (w.length + 1))), (10, .pu (pI ((k : Int) - 1))), (100001, .rw b1 1 eI (rowC m w k) 3), (100002, .rw b2 2 eI (rowE m w k) 3)])
    (fun k => k ≤ w.length) (fun k => k) w.length (Nat.le_refl _) ?_ fun k hk ih => ?_
  · (repeat' (first | exact trivial | refine ⟨?_, ?_⟩ | fail)) <;> (try first | exact has_rfl rfl | exact has_nil rfl | exact has_nilS rfl | exact has_gr rfl | exact has_int rfl (by first | omega | (simp only [List.length_append, List.length_singleton]; omega)) | fail)
    · exact has_pu rfl (by simp [pSr])
    · exact has_pu rfl (by simp [pSr])
    · exact has_rwE rfl (by rw [rowC_end]; congr 1)
    · exact has_rwE rfl (by rw [rowE_end]; congr 1)
  (repeat (first | refine c_seq ?_ | refine c_reg ?_ | refine c_rnil ?_ | refine c_block ?_ | refine c_inBlock ?_ | refine c_exit ?_ | refine c_skip ?_ | refine c_label ?_ | refine c_true ?_ | refine c_false ?_ | refine c_yes ?_ | refine c_no ?_ | refine c_op (by first | exact t_moveG | exact t_move | exact t_moveO | exact t_assignG | exact t_assignO | exact t_assign | exact t_pickT | exact t_pickF | exact t_add | exact t_sub | exact t_neg | exact t_not | exact t_min | exact t_max | exact t_lssT | exact t_lssF | exact t_lss | exact t_leqT | exact t_leqF | exact t_leq | exact t_gtrT | exact t_gtrF | exact t_gtr | exact t_geqT | exact t_geqF | exact t_geq | exact t_eqlT | exact t_eqlF | exact t_eql | exact t_neqT | exact t_neqF | exact t_neq | exact t_ext0 | exact t_ext1 | exact t_ext30 | exact t_ext31 | exact t_ext32 | exact t_len | exact t_lenN | exact t_lenR | exact t_idxN | exact t_idx | exact t_load | exact t_fa | exact t_fv | exact t_bl | exact t_sliceG | exact t_sliceLHN | exact t_sliceLN | exact t_sliceHN | exact t_sliceLH | exact t_sliceL | exact t_sliceH | exact t_bs | exact t_quo | exact t_rem | exact t_boxP) ?_ | refine c_opW t_app ?_))
  refine c_if (fun hlt => ?_) fun hge => ?_
  · obtain ⟨i, rfl⟩ : ∃ i, k = i + 1 := ⟨k - 1, by omega⟩
    have hi : i < w.length := by omega
    have hCl := rowC_len (m := m) (w := w) (k := i + 1) hk
    have hEl := rowE_len (m := m) (w := w) (k := i + 1) hk
    refine c_to 10 (.pu (pI i)) (has_int rfl (by omega)) ?_
    (repeat (first | refine c_seq ?_ | refine c_reg ?_ | refine c_rnil ?_ | refine c_block ?_ | refine c_inBlock ?_ | refine c_exit ?_ | refine c_skip ?_ | refine c_label ?_ | refine c_true ?_ | refine c_false ?_ | refine c_yes ?_ | refine c_no ?_ | refine c_scope ?_ | refine c_op (by first | exact t_moveG | exact t_move | exact t_moveO | exact t_assignG | exact t_assignO | exact t_assign | exact t_pickT | exact t_pickF | exact t_add | exact t_sub | exact t_neg | exact t_not | exact t_min | exact t_max | exact t_lssT | exact t_lssF | exact t_lss | exact t_leqT | exact t_leqF | exact t_leq | exact t_gtrT | exact t_gtrF | exact t_gtr | exact t_geqT | exact t_geqF | exact t_geq | exact t_eqlT | exact t_eqlF | exact t_eql | exact t_neqT | exact t_neqF | exact t_neq | exact t_ext0 | exact t_ext1 | exact t_ext30 | exact t_ext31 | exact t_ext32 | exact t_len | exact t_lenN | exact t_lenR | exact t_idxN | exact t_idx | exact t_load | exact t_fa | exact t_fv | exact t_bl | exact t_sliceG | exact t_sliceLHN | exact t_sliceLN | exact t_sliceHN | exact t_sliceLH | exact t_sliceL | exact t_sliceH | exact t_bs | exact t_quo | exact t_rem | exact t_boxP) ?_ | refine c_opW t_app ?_))
    refine c_loop (fun x : Nat × Int × Int × Int => [(0, .pu (pSl eI w)), (1, .pu (pI m)), (7, .pu (pI w.length)), (8, .pu (pSr b1 (w.length + 1))), (9, .pu (pSr b2 (w.length + 1))), (10, .pu (pI i)), (11, .pu (pI x.2.1)), (12, .pu (pI (i + 1 + x.1 : Nat))),
        (100001, .rw b1 1 eI ((rowC m w (i + 1)).set i x.2.2.1) 3), (100002, .rw b2 2 eI ((rowE m w (i + 1)).set i x.2.2.2) 3)])
      (fun x => i + x.1 < w.length ∧ x.2.1 ≤ m + 6 ∧ 0 ≤ x.2.1 ∧ (x.1 = 0 → x.2.1 = m + 6) ∧ (x.1 ≠ 0 → 0 ≤ x.2.2.1) ∧ inn m ((w.drop i).drop x.1) ((dpl m (w.drop (i + 1)) (i + 1 : Nat)).drop x.1) (i + 1 + x.1 : Nat) x.2.1 (if x.1 = 0 then -1 else x.2.2.1) x.2.2.2 = at26 (dpl m w 0) i)
      (fun x => w.length - x.1) (0, m + 6, 0, 0) ⟨hi, Int.le_refl _, by dsimp only; omega, fun _ => rfl, fun h => absurd rfl h, (at_inn hi).symm⟩ ?_ ?_
    · (repeat' (first | exact trivial | refine ⟨?_, ?_⟩ | fail)) <;> (try first | exact has_rfl rfl | exact has_nil rfl | exact has_nilS rfl | exact has_gr rfl | exact has_int rfl (by first | omega | (simp only [List.length_append, List.length_singleton]; omega)) | fail)
      · exact has_rwE rfl (set_same (rowC_zero hi)).symm
      · exact has_rwE rfl (set_same (rowE_zero hi)).symm
    rintro ⟨kk, s, c, e⟩ ⟨hkk, hs1, hs2, hs3, hc0, hinn⟩ ihi
    dsimp only at hkk hs1 hs2 hs3 hc0 hinn ihi ⊢
    have hx := hw _ (List.getElem_mem hkk)
    rw [inn_step hkk] at hinn
    have hv1 : ((rowC m w (i + 1)).set i c)[i + 1 + kk]? = some (at26 (dpl m w 0) (i + 1 + kk)).1 := by
      rw [List.getElem?_set_ne (by omega)]
      exact rowC_get (by omega) (by omega)
    have hv2 : ((rowC m w (i + 1)).set i c)[i]? = some c := List.getElem?_set_self (by omega)
    have hbd := at_bd ⟨hm1, hm2⟩ hw 500 (i + 1 + kk) (by omega) (by omega)
    by_cases hneg : s - (w[i + kk] + 6) < 0
    · rw [if_pos hneg] at hinn
      have hk0 : kk ≠ 0 := fun h => by have := hs3 h; omega
      rw [if_neg hk0] at hinn
      (repeat (first | refine c_seq ?_ | refine c_reg ?_ | refine c_rnil ?_ | refine c_block ?_ | refine c_inBlock ?_ | refine c_exit ?_ | refine c_skip ?_ | refine c_label ?_ | refine c_true ?_ | refine c_false ?_ | refine c_yes ?_ | refine c_no ?_ | refine c_inScope ?_ | refine c_op (by first | exact (t_idxE (n := i + kk) (hm := by omega)) | exact t_moveG | exact t_move | exact t_moveO | exact t_assignG | exact t_assignO | exact t_assign | exact t_pickT | exact t_pickF | exact t_add | exact t_sub | exact t_neg | exact t_not | exact t_min | exact t_max | exact t_lssT | exact t_lssF | exact t_lss | exact t_leqT | exact t_leqF | exact t_leq | exact t_gtrT | exact t_gtrF | exact t_gtr | exact t_geqT | exact t_geqF | exact t_geq | exact t_eqlT | exact t_eqlF | exact t_eql | exact t_neqT | exact t_neqF | exact t_neq | exact t_ext0 | exact t_ext1 | exact t_ext30 | exact t_ext31 | exact t_ext32 | exact t_len | exact t_lenN | exact t_lenR | exact t_idxN | exact t_idx | exact t_load | exact t_fa | exact t_fv | exact t_bl | exact t_sliceG | exact t_sliceLHN | exact t_sliceLN | exact t_sliceHN | exact t_sliceLH | exact t_sliceL | exact t_sliceH | exact t_bs | exact t_quo | exact t_rem | exact t_boxP) ?_ | refine c_opW t_app ?_))
      refine (ih i (by omega) (by omega)).sub ?_
      (repeat' (first | exact trivial | refine ⟨?_, ?_⟩ | fail)) <;> (try first | exact has_rfl rfl | exact has_nil rfl | exact has_nilS rfl | exact has_gr rfl | exact has_int rfl (by first | omega | (simp only [List.length_append, List.length_singleton]; omega)) | fail)
      · exact has_rwE rfl (by rw [← rowC_set hi, ← hinn])
      · exact has_rwE rfl (by rw [← rowE_set hi, ← hinn])
    rw [if_neg hneg] at hinn
    by_cases hend : i + kk + 1 = w.length
    · rw [if_pos hend] at hinn
      (repeat (first | refine c_seq ?_ | refine c_reg ?_ | refine c_rnil ?_ | refine c_block ?_ | refine c_inBlock ?_ | refine c_exit ?_ | refine c_skip ?_ | refine c_label ?_ | refine c_true ?_ | refine c_false ?_ | refine c_yes ?_ | refine c_no ?_ | refine c_inScope ?_ | refine (c_st 100001 (t_st 100001)) ?_ | refine (c_st 100002 (t_st 100002)) ?_ | refine c_op (by first | exact (t_idxE (n := i + kk) (hm := by omega)) | exact (t_idxRN 100001) | exact (t_idxRN 100002) | exact t_moveG | exact t_move | exact t_moveO | exact t_assignG | exact t_assignO | exact t_assign | exact t_pickT | exact t_pickF | exact t_add | exact t_sub | exact t_neg | exact t_not | exact t_min | exact t_max | exact t_lssT | exact t_lssF | exact t_lss | exact t_leqT | exact t_leqF | exact t_leq | exact t_gtrT | exact t_gtrF | exact t_gtr | exact t_geqT | exact t_geqF | exact t_geq | exact t_eqlT | exact t_eqlF | exact t_eql | exact t_neqT | exact t_neqF | exact t_neq | exact t_ext0 | exact t_ext1 | exact t_ext30 | exact t_ext31 | exact t_ext32 | exact t_len | exact t_lenN | exact t_lenR | exact t_idxN | exact t_idx | exact t_load | exact t_fa | exact t_fv | exact t_bl | exact t_sliceG | exact t_sliceLHN | exact t_sliceLN | exact t_sliceHN | exact t_sliceLH | exact t_sliceL | exact t_sliceH | exact t_bs | exact t_quo | exact t_rem | exact t_boxP) ?_ | refine c_opW t_app ?_))
      refine (ih i (by omega) (by omega)).sub ?_
      (repeat' (first | exact trivial | refine ⟨?_, ?_⟩ | fail)) <;> (try first | exact has_rfl rfl | exact has_nil rfl | exact has_nilS rfl | exact has_gr rfl | exact has_int rfl (by first | omega | (simp only [List.length_append, List.length_singleton]; omega)) | fail)
      · exact has_rwE rfl (by rw [← rowC_set hi, ← hinn, List.set_set])
      · exact has_rwE rfl (by rw [← rowE_set hi, ← hinn, List.set_set]; congr 1; omega)
    rw [if_neg hend] at hinn
    have hsq0 := sq_nonneg (s - (w[i + kk] + 6))
    have hsq1 : (s - (w[i + kk] + 6)) * (s - (w[i + kk] + 6)) ≤ 4024036 := Int.le_trans (Int.mul_le_mul (show _ ≤ (2006 : Int) by omega) (show _ ≤ (2006 : Int) by omega) (by omega) (by omega)) (by decide)
    have e1 : ((i + 1 + kk : Nat) : Int) + 1 = ((i + 1 + (kk + 1) : Nat) : Int) := by omega
    by_cases hup : kk = 0 ∨ (s - (w[i + kk] + 6)) * (s - (w[i + kk] + 6)) + (at26 (dpl m w 0) (i + 1 + kk)).1 ≤ c
    · rw [if_pos (by
        rcases hup with h | h
        · exact .inl (by rw [if_pos h]; omega)
        · by_cases h0 : kk = 0
          · exact .inl (by rw [if_pos h0]; omega)
          · exact .inr (by rw [if_neg h0]; exact h)), e1] at hinn
      by_cases h0 : kk = 0
      · (repeat (first | refine c_seq ?_ | refine c_reg ?_ | refine c_rnil ?_ | refine c_block ?_ | refine c_inBlock ?_ | refine c_exit ?_ | refine c_skip ?_ | refine c_label ?_ | refine c_true ?_ | refine c_false ?_ | refine c_yes ?_ | refine c_no ?_ | refine c_inScope ?_ | refine c_op (by first | exact (t_idxE (n := i + kk) (hm := by omega)) | exact t_moveG | exact t_move | exact t_moveO | exact t_assignG | exact t_assignO | exact t_assign | exact t_pickT | exact t_pickF | exact t_add | exact t_sub | exact t_neg | exact t_not | exact t_min | exact t_max | exact t_lssT | exact t_lssF | exact t_lss | exact t_leqT | exact t_leqF | exact t_leq | exact t_gtrT | exact t_gtrF | exact t_gtr | exact t_geqT | exact t_geqF | exact t_geq | exact t_eqlT | exact t_eqlF | exact t_eql | exact t_neqT | exact t_neqF | exact t_neq | exact t_ext0 | exact t_ext1 | exact t_ext30 | exact t_ext31 | exact t_ext32 | exact t_len | exact t_lenN | exact t_lenR | exact t_idxN | exact t_idx | exact t_load | exact t_fa | exact t_fv | exact t_bl | exact t_sliceG | exact t_sliceLHN | exact t_sliceLN | exact t_sliceHN | exact t_sliceLH | exact t_sliceL | exact t_sliceH | exact t_bs | exact t_quo | exact t_rem | exact t_boxP) ?_ | refine c_opW t_app ?_))
        refine c_draw0 mixed (by kernel_rfl) ?_
        (repeat (first | refine d_op (by first | exact (t_mul) | exact (t_idxRN 100001) | exact (t_loadRE 100001 (hv := hv1)) | exact (t_loadRE 100001 (hv := hv2)) | exact t_moveG | exact t_move | exact t_moveO | exact t_assignG | exact t_assignO | exact t_assign | exact t_pickT | exact t_pickF | exact t_add | exact t_sub | exact t_neg | exact t_not | exact t_min | exact t_max | exact t_lssT | exact t_lssF | exact t_lss | exact t_leqT | exact t_leqF | exact t_leq | exact t_gtrT | exact t_gtrF | exact t_gtr | exact t_geqT | exact t_geqF | exact t_geq | exact t_eqlT | exact t_eqlF | exact t_eql | exact t_neqT | exact t_neqF | exact t_neq | exact t_ext0 | exact t_ext1 | exact t_ext30 | exact t_ext31 | exact t_ext32 | exact t_len | exact t_lenN | exact t_lenR | exact t_idxN | exact t_idx | exact t_load | exact t_fa | exact t_fv | exact t_bl | exact t_sliceG | exact t_sliceLHN | exact t_sliceLN | exact t_sliceHN | exact t_sliceLH | exact t_sliceL | exact t_sliceH | exact t_bs | exact t_quo | exact t_rem | exact t_boxP) ?_ | refine d_yes (by first | exact (t_mul) | exact (t_idxRN 100001) | exact (t_loadRE 100001 (hv := hv1)) | exact (t_loadRE 100001 (hv := hv2)) | exact t_moveG | exact t_move | exact t_moveO | exact t_assignG | exact t_assignO | exact t_assign | exact t_pickT | exact t_pickF | exact t_add | exact t_sub | exact t_neg | exact t_not | exact t_min | exact t_max | exact t_lssT | exact t_lssF | exact t_lss | exact t_leqT | exact t_leqF | exact t_leq | exact t_gtrT | exact t_gtrF | exact t_gtr | exact t_geqT | exact t_geqF | exact t_geq | exact t_eqlT | exact t_eqlF | exact t_eql | exact t_neqT | exact t_neqF | exact t_neq | exact t_ext0 | exact t_ext1 | exact t_ext30 | exact t_ext31 | exact t_ext32 | exact t_len | exact t_lenN | exact t_lenR | exact t_idxN | exact t_idx | exact t_load | exact t_fa | exact t_fv | exact t_bl | exact t_sliceG | exact t_sliceLHN | exact t_sliceLN | exact t_sliceHN | exact t_sliceLH | exact t_sliceL | exact t_sliceH | exact t_bs | exact t_quo | exact t_rem | exact t_boxP) ?_ | refine d_no ?_))
        refine d_nil (q_nil ?_ (by kernel_rfl))
        (repeat (first | refine c_seq ?_ | refine c_reg ?_ | refine c_rnil ?_ | refine c_block ?_ | refine c_inBlock ?_ | refine c_exit ?_ | refine c_skip ?_ | refine c_label ?_ | refine c_true ?_ | refine c_false ?_ | refine c_yes ?_ | refine c_no ?_ | refine c_inScope ?_ | refine (c_st 100001 (t_st 100001)) ?_ | refine (c_st 100002 (t_st 100002)) ?_ | refine c_op (by first | exact (t_mul) | exact (t_idxRN 100001) | exact (t_idxRN 100002) | exact (t_loadRE 100001 (hv := hv1)) | exact t_moveG | exact t_move | exact t_moveO | exact t_assignG | exact t_assignO | exact t_assign | exact t_pickT | exact t_pickF | exact t_add | exact t_sub | exact t_neg | exact t_not | exact t_min | exact t_max | exact t_lssT | exact t_lssF | exact t_lss | exact t_leqT | exact t_leqF | exact t_leq | exact t_gtrT | exact t_gtrF | exact t_gtr | exact t_geqT | exact t_geqF | exact t_geq | exact t_eqlT | exact t_eqlF | exact t_eql | exact t_neqT | exact t_neqF | exact t_neq | exact t_ext0 | exact t_ext1 | exact t_ext30 | exact t_ext31 | exact t_ext32 | exact t_len | exact t_lenN | exact t_lenR | exact t_idxN | exact t_idx | exact t_load | exact t_fa | exact t_fv | exact t_bl | exact t_sliceG | exact t_sliceLHN | exact t_sliceLN | exact t_sliceHN | exact t_sliceLH | exact t_sliceL | exact t_sliceH | exact t_bs | exact t_quo | exact t_rem | exact t_boxP) ?_ | refine c_opW t_app ?_))
        refine (ihi (kk + 1, s - (w[i + kk] + 6), (s - (w[i + kk] + 6)) * (s - (w[i + kk] + 6)) + (at26 (dpl m w 0) (i + 1 + kk)).1, ((i + 1 + kk : Nat) : Int)) ⟨by dsimp only; omega, by dsimp only; omega, by dsimp only; omega, fun h => absurd h (Nat.succ_ne_zero kk), fun _ => by dsimp only; omega, by rw [← hinn, if_neg (Nat.succ_ne_zero kk)]⟩ (by dsimp only; omega)).sub ?_
        (repeat' (first | exact trivial | refine ⟨?_, ?_⟩ | fail)) <;> (try first | exact has_rfl rfl | exact has_nil rfl | exact has_nilS rfl | exact has_gr rfl | exact has_int rfl (by first | omega | (simp only [List.length_append, List.length_singleton]; omega)) | fail)
        · exact has_rwE rfl (by rw [List.set_set])
        · exact has_rwE rfl (by rw [List.set_set])
      · have hle := hup.resolve_left h0
        (repeat (first | refine c_seq ?_ | refine c_reg ?_ | refine c_rnil ?_ | refine c_block ?_ | refine c_inBlock ?_ | refine c_exit ?_ | refine c_skip ?_ | refine c_label ?_ | refine c_true ?_ | refine c_false ?_ | refine c_yes ?_ | refine c_no ?_ | refine c_inScope ?_ | refine c_op (by first | exact (t_idxE (n := i + kk) (hm := by omega)) | exact t_moveG | exact t_move | exact t_moveO | exact t_assignG | exact t_assignO | exact t_assign | exact t_pickT | exact t_pickF | exact t_add | exact t_sub | exact t_neg | exact t_not | exact t_min | exact t_max | exact t_lssT | exact t_lssF | exact t_lss | exact t_leqT | exact t_leqF | exact t_leq | exact t_gtrT | exact t_gtrF | exact t_gtr | exact t_geqT | exact t_geqF | exact t_geq | exact t_eqlT | exact t_eqlF | exact t_eql | exact t_neqT | exact t_neqF | exact t_neq | exact t_ext0 | exact t_ext1 | exact t_ext30 | exact t_ext31 | exact t_ext32 | exact t_len | exact t_lenN | exact t_lenR | exact t_idxN | exact t_idx | exact t_load | exact t_fa | exact t_fv | exact t_bl | exact t_sliceG | exact t_sliceLHN | exact t_sliceLN | exact t_sliceHN | exact t_sliceLH | exact t_sliceL | exact t_sliceH | exact t_bs | exact t_quo | exact t_rem | exact t_boxP) ?_ | refine c_opW t_app ?_))
        refine c_draw0 mixed (by kernel_rfl) ?_
        (repeat (first | refine d_op (by first | exact (t_mul) | exact (t_idxRN 100001) | exact (t_loadRE 100001 (hv := hv1)) | exact (t_loadRE 100001 (hv := hv2)) | exact t_moveG | exact t_move | exact t_moveO | exact t_assignG | exact t_assignO | exact t_assign | exact t_pickT | exact t_pickF | exact t_add | exact t_sub | exact t_neg | exact t_not | exact t_min | exact t_max | exact t_lssT | exact t_lssF | exact t_lss | exact t_leqT | exact t_leqF | exact t_leq | exact t_gtrT | exact t_gtrF | exact t_gtr | exact t_geqT | exact t_geqF | exact t_geq | exact t_eqlT | exact t_eqlF | exact t_eql | exact t_neqT | exact t_neqF | exact t_neq | exact t_ext0 | exact t_ext1 | exact t_ext30 | exact t_ext31 | exact t_ext32 | exact t_len | exact t_lenN | exact t_lenR | exact t_idxN | exact t_idx | exact t_load | exact t_fa | exact t_fv | exact t_bl | exact t_sliceG | exact t_sliceLHN | exact t_sliceLN | exact t_sliceHN | exact t_sliceLH | exact t_sliceL | exact t_sliceH | exact t_bs | exact t_quo | exact t_rem | exact t_boxP) ?_ | refine d_yes (by first | exact (t_mul) | exact (t_idxRN 100001) | exact (t_loadRE 100001 (hv := hv1)) | exact (t_loadRE 100001 (hv := hv2)) | exact t_moveG | exact t_move | exact t_moveO | exact t_assignG | exact t_assignO | exact t_assign | exact t_pickT | exact t_pickF | exact t_add | exact t_sub | exact t_neg | exact t_not | exact t_min | exact t_max | exact t_lssT | exact t_lssF | exact t_lss | exact t_leqT | exact t_leqF | exact t_leq | exact t_gtrT | exact t_gtrF | exact t_gtr | exact t_geqT | exact t_geqF | exact t_geq | exact t_eqlT | exact t_eqlF | exact t_eql | exact t_neqT | exact t_neqF | exact t_neq | exact t_ext0 | exact t_ext1 | exact t_ext30 | exact t_ext31 | exact t_ext32 | exact t_len | exact t_lenN | exact t_lenR | exact t_idxN | exact t_idx | exact t_load | exact t_fa | exact t_fv | exact t_bl | exact t_sliceG | exact t_sliceLHN | exact t_sliceLN | exact t_sliceHN | exact t_sliceLH | exact t_sliceL | exact t_sliceH | exact t_bs | exact t_quo | exact t_rem | exact t_boxP) ?_ | refine d_no ?_))
        refine d_nil (q_nil ?_ (by kernel_rfl))
        (repeat (first | refine c_seq ?_ | refine c_reg ?_ | refine c_rnil ?_ | refine c_block ?_ | refine c_inBlock ?_ | refine c_exit ?_ | refine c_skip ?_ | refine c_label ?_ | refine c_true ?_ | refine c_false ?_ | refine c_yes ?_ | refine c_no ?_ | refine c_inScope ?_ | refine (c_st 100001 (t_st 100001)) ?_ | refine (c_st 100002 (t_st 100002)) ?_ | refine c_op (by first | exact (t_mul) | exact (t_idxRN 100001) | exact (t_idxRN 100002) | exact (t_loadRE 100001 (hv := hv1)) | exact t_moveG | exact t_move | exact t_moveO | exact t_assignG | exact t_assignO | exact t_assign | exact t_pickT | exact t_pickF | exact t_add | exact t_sub | exact t_neg | exact t_not | exact t_min | exact t_max | exact t_lssT | exact t_lssF | exact t_lss | exact t_leqT | exact t_leqF | exact t_leq | exact t_gtrT | exact t_gtrF | exact t_gtr | exact t_geqT | exact t_geqF | exact t_geq | exact t_eqlT | exact t_eqlF | exact t_eql | exact t_neqT | exact t_neqF | exact t_neq | exact t_ext0 | exact t_ext1 | exact t_ext30 | exact t_ext31 | exact t_ext32 | exact t_len | exact t_lenN | exact t_lenR | exact t_idxN | exact t_idx | exact t_load | exact t_fa | exact t_fv | exact t_bl | exact t_sliceG | exact t_sliceLHN | exact t_sliceLN | exact t_sliceHN | exact t_sliceLH | exact t_sliceL | exact t_sliceH | exact t_bs | exact t_quo | exact t_rem | exact t_boxP) ?_ | refine c_opW t_app ?_))
        refine (ihi (kk + 1, s - (w[i + kk] + 6), (s - (w[i + kk] + 6)) * (s - (w[i + kk] + 6)) + (at26 (dpl m w 0) (i + 1 + kk)).1, ((i + 1 + kk : Nat) : Int)) ⟨by dsimp only; omega, by dsimp only; omega, by dsimp only; omega, fun h => absurd h (Nat.succ_ne_zero kk), fun _ => by dsimp only; omega, by rw [← hinn, if_neg (Nat.succ_ne_zero kk)]⟩ (by dsimp only; omega)).sub ?_
        (repeat' (first | exact trivial | refine ⟨?_, ?_⟩ | fail)) <;> (try first | exact has_rfl rfl | exact has_nil rfl | exact has_nilS rfl | exact has_gr rfl | exact has_int rfl (by first | omega | (simp only [List.length_append, List.length_singleton]; omega)) | fail)
        · exact has_rwE rfl (by rw [List.set_set])
        · exact has_rwE rfl (by rw [List.set_set])
    · have h0 : kk ≠ 0 := fun h => hup (.inl h)
      have hgt : c < (s - (w[i + kk] + 6)) * (s - (w[i + kk] + 6)) + (at26 (dpl m w 0) (i + 1 + kk)).1 := by
        have : ¬ _ := fun h => hup (.inr h)
        omega
      have hc0 := hc0 h0
      rw [if_neg (by rw [if_neg h0]; omega), if_neg h0, e1] at hinn
      (repeat (first | refine c_seq ?_ | refine c_reg ?_ | refine c_rnil ?_ | refine c_block ?_ | refine c_inBlock ?_ | refine c_exit ?_ | refine c_skip ?_ | refine c_label ?_ | refine c_true ?_ | refine c_false ?_ | refine c_yes ?_ | refine c_no ?_ | refine c_inScope ?_ | refine c_op (by first | exact (t_idxE (n := i + kk) (hm := by omega)) | exact t_moveG | exact t_move | exact t_moveO | exact t_assignG | exact t_assignO | exact t_assign | exact t_pickT | exact t_pickF | exact t_add | exact t_sub | exact t_neg | exact t_not | exact t_min | exact t_max | exact t_lssT | exact t_lssF | exact t_lss | exact t_leqT | exact t_leqF | exact t_leq | exact t_gtrT | exact t_gtrF | exact t_gtr | exact t_geqT | exact t_geqF | exact t_geq | exact t_eqlT | exact t_eqlF | exact t_eql | exact t_neqT | exact t_neqF | exact t_neq | exact t_ext0 | exact t_ext1 | exact t_ext30 | exact t_ext31 | exact t_ext32 | exact t_len | exact t_lenN | exact t_lenR | exact t_idxN | exact t_idx | exact t_load | exact t_fa | exact t_fv | exact t_bl | exact t_sliceG | exact t_sliceLHN | exact t_sliceLN | exact t_sliceHN | exact t_sliceLH | exact t_sliceL | exact t_sliceH | exact t_bs | exact t_quo | exact t_rem | exact t_boxP) ?_ | refine c_opW t_app ?_))
      refine c_draw0 mixed (by kernel_rfl) ?_
      (repeat (first | refine d_op (by first | exact (t_mul) | exact (t_idxRN 100001) | exact (t_loadRE 100001 (hv := hv1)) | exact (t_loadRE 100001 (hv := hv2)) | exact t_moveG | exact t_move | exact t_moveO | exact t_assignG | exact t_assignO | exact t_assign | exact t_pickT | exact t_pickF | exact t_add | exact t_sub | exact t_neg | exact t_not | exact t_min | exact t_max | exact t_lssT | exact t_lssF | exact t_lss | exact t_leqT | exact t_leqF | exact t_leq | exact t_gtrT | exact t_gtrF | exact t_gtr | exact t_geqT | exact t_geqF | exact t_geq | exact t_eqlT | exact t_eqlF | exact t_eql | exact t_neqT | exact t_neqF | exact t_neq | exact t_ext0 | exact t_ext1 | exact t_ext30 | exact t_ext31 | exact t_ext32 | exact t_len | exact t_lenN | exact t_lenR | exact t_idxN | exact t_idx | exact t_load | exact t_fa | exact t_fv | exact t_bl | exact t_sliceG | exact t_sliceLHN | exact t_sliceLN | exact t_sliceHN | exact t_sliceLH | exact t_sliceL | exact t_sliceH | exact t_bs | exact t_quo | exact t_rem | exact t_boxP) ?_ | refine d_yes (by first | exact (t_mul) | exact (t_idxRN 100001) | exact (t_loadRE 100001 (hv := hv1)) | exact (t_loadRE 100001 (hv := hv2)) | exact t_moveG | exact t_move | exact t_moveO | exact t_assignG | exact t_assignO | exact t_assign | exact t_pickT | exact t_pickF | exact t_add | exact t_sub | exact t_neg | exact t_not | exact t_min | exact t_max | exact t_lssT | exact t_lssF | exact t_lss | exact t_leqT | exact t_leqF | exact t_leq | exact t_gtrT | exact t_gtrF | exact t_gtr | exact t_geqT | exact t_geqF | exact t_geq | exact t_eqlT | exact t_eqlF | exact t_eql | exact t_neqT | exact t_neqF | exact t_neq | exact t_ext0 | exact t_ext1 | exact t_ext30 | exact t_ext31 | exact t_ext32 | exact t_len | exact t_lenN | exact t_lenR | exact t_idxN | exact t_idx | exact t_load | exact t_fa | exact t_fv | exact t_bl | exact t_sliceG | exact t_sliceLHN | exact t_sliceLN | exact t_sliceHN | exact t_sliceLH | exact t_sliceL | exact t_sliceH | exact t_bs | exact t_quo | exact t_rem | exact t_boxP) ?_ | refine d_no ?_))
      refine d_nil (q_nil ?_ (by kernel_rfl))
      (repeat (first | refine c_seq ?_ | refine c_reg ?_ | refine c_rnil ?_ | refine c_block ?_ | refine c_inBlock ?_ | refine c_exit ?_ | refine c_skip ?_ | refine c_label ?_ | refine c_true ?_ | refine c_false ?_ | refine c_yes ?_ | refine c_no ?_ | refine c_inScope ?_ | refine c_op (by first | exact t_moveG | exact t_move | exact t_moveO | exact t_assignG | exact t_assignO | exact t_assign | exact t_pickT | exact t_pickF | exact t_add | exact t_sub | exact t_neg | exact t_not | exact t_min | exact t_max | exact t_lssT | exact t_lssF | exact t_lss | exact t_leqT | exact t_leqF | exact t_leq | exact t_gtrT | exact t_gtrF | exact t_gtr | exact t_geqT | exact t_geqF | exact t_geq | exact t_eqlT | exact t_eqlF | exact t_eql | exact t_neqT | exact t_neqF | exact t_neq | exact t_ext0 | exact t_ext1 | exact t_ext30 | exact t_ext31 | exact t_ext32 | exact t_len | exact t_lenN | exact t_lenR | exact t_idxN | exact t_idx | exact t_load | exact t_fa | exact t_fv | exact t_bl | exact t_sliceG | exact t_sliceLHN | exact t_sliceLN | exact t_sliceHN | exact t_sliceLH | exact t_sliceL | exact t_sliceH | exact t_bs | exact t_quo | exact t_rem | exact t_boxP) ?_ | refine c_opW t_app ?_))
      exact (ihi (kk + 1, s - (w[i + kk] + 6), c, e) ⟨by dsimp only; omega, by dsimp only; omega, by dsimp only; omega, fun h => absurd h (Nat.succ_ne_zero kk), fun _ => hc0, by rw [← hinn, if_neg (Nat.succ_ne_zero kk)]⟩ (by dsimp only; omega)).sub (by repeat (first | exact trivial | refine ⟨has_rfl rfl, ?_⟩ | refine ⟨has_nil rfl, ?_⟩ | refine ⟨has_nilS rfl, ?_⟩ | refine ⟨has_gr rfl, ?_⟩ | refine ⟨has_int rfl (by first | omega | (simp only [List.length_append, List.length_singleton]; omega)), ?_⟩))
  have hk0 : k = 0 := by omega
  subst hk0
  (repeat (first | refine c_seq ?_ | refine c_reg ?_ | refine c_rnil ?_ | refine c_block ?_ | refine c_inBlock ?_ | refine c_exit ?_ | refine c_skip ?_ | refine c_label ?_ | refine c_true ?_ | refine c_false ?_ | refine c_yes ?_ | refine c_no ?_ | refine c_op (by first | exact t_moveG | exact t_move | exact t_moveO | exact t_assignG | exact t_assignO | exact t_assign | exact t_pickT | exact t_pickF | exact t_add | exact t_sub | exact t_neg | exact t_not | exact t_min | exact t_max | exact t_lssT | exact t_lssF | exact t_lss | exact t_leqT | exact t_leqF | exact t_leq | exact t_gtrT | exact t_gtrF | exact t_gtr | exact t_geqT | exact t_geqF | exact t_geq | exact t_eqlT | exact t_eqlF | exact t_eql | exact t_neqT | exact t_neqF | exact t_neq | exact t_ext0 | exact t_ext1 | exact t_ext30 | exact t_ext31 | exact t_ext32 | exact t_len | exact t_lenN | exact t_lenR | exact t_idxN | exact t_idx | exact t_load | exact t_fa | exact t_fv | exact t_bl | exact t_sliceG | exact t_sliceLHN | exact t_sliceLN | exact t_sliceHN | exact t_sliceLH | exact t_sliceL | exact t_sliceH | exact t_bs | exact t_quo | exact t_rem | exact t_boxP) ?_ | refine c_opW t_app ?_))
  refine c_loop (fun x : Nat × List Int × Nat => [(7, .pu (pI w.length)), (9, .pu (pSr b2 (w.length + 1))), (13, .gr eI x.2.1 3 3), (14, .pu (pI x.1)), (100002, .rw b2 2 eI (rowE m w 0) 3)])
    (fun x => x.1 ≤ w.length ∧ w.length < x.1 + x.2.2 ∧ x.2.1.length ≤ x.1 ∧ endsM w m = x.2.1 ++ walkE (dpl m w 0) w.length x.2.2 x.1) (fun x => x.2.2) (0, [], w.length + 1) ⟨Nat.zero_le _, by dsimp only; omega, by simp, rfl⟩ (by repeat (first | exact trivial | refine ⟨has_rfl rfl, ?_⟩ | refine ⟨has_nil rfl, ?_⟩ | refine ⟨has_nilS rfl, ?_⟩ | refine ⟨has_gr rfl, ?_⟩ | refine ⟨has_int rfl (by first | omega | (simp only [List.length_append, List.length_singleton]; omega)), ?_⟩)) ?_
  rintro ⟨a, out, f⟩ ⟨ha, hf, ho, hends⟩ ih
  dsimp only at ha hf ho hends ih ⊢
  (repeat (first | refine c_seq ?_ | refine c_reg ?_ | refine c_rnil ?_ | refine c_block ?_ | refine c_inBlock ?_ | refine c_exit ?_ | refine c_skip ?_ | refine c_label ?_ | refine c_true ?_ | refine c_false ?_ | refine c_yes ?_ | refine c_no ?_ | refine c_op (by first | exact t_moveG | exact t_move | exact t_moveO | exact t_assignG | exact t_assignO | exact t_assign | exact t_pickT | exact t_pickF | exact t_add | exact t_sub | exact t_neg | exact t_not | exact t_min | exact t_max | exact t_lssT | exact t_lssF | exact t_lss | exact t_leqT | exact t_leqF | exact t_leq | exact t_gtrT | exact t_gtrF | exact t_gtr | exact t_geqT | exact t_geqF | exact t_geq | exact t_eqlT | exact t_eqlF | exact t_eql | exact t_neqT | exact t_neqF | exact t_neq | exact t_ext0 | exact t_ext1 | exact t_ext30 | exact t_ext31 | exact t_ext32 | exact t_len | exact t_lenN | exact t_lenR | exact t_idxN | exact t_idx | exact t_load | exact t_fa | exact t_fv | exact t_bl | exact t_sliceG | exact t_sliceLHN | exact t_sliceLN | exact t_sliceHN | exact t_sliceLH | exact t_sliceL | exact t_sliceH | exact t_bs | exact t_quo | exact t_rem | exact t_boxP) ?_ | refine c_opW t_app ?_))
  refine c_if (fun hlt => ?_) fun hge2 => ?_
  · have ha2 : a < w.length := by omega
    obtain ⟨f, rfl⟩ : ∃ g, f = g + 1 := ⟨f - 1, by omega⟩
    have hB := at_best m hm1 hw a ha2
    have hul : (w.drop a).length = w.length - a := List.length_drop
    have h1 := hB.lo
    have h2 := hB.hi
    rw [walkE_cons (by omega)] at hends
    obtain ⟨a', ha'⟩ : ∃ a' : Nat, (at26 (dpl m w 0) a).2 = (a' : Int) := ⟨(at26 (dpl m w 0) a).2.toNat, by omega⟩
    have hv := rowE_get (m := m) (w := w) (k := 0) (j := a) (by omega) (by omega)
    rw [ha'] at hends hv h1 h2
    (repeat (first | refine c_seq ?_ | refine c_reg ?_ | refine c_rnil ?_ | refine c_block ?_ | refine c_inBlock ?_ | refine c_exit ?_ | refine c_skip ?_ | refine c_label ?_ | refine c_true ?_ | refine c_false ?_ | refine c_yes ?_ | refine c_no ?_ | refine c_op (by first | exact (t_idxRN 100002) | exact (t_loadRE 100002 (hv := hv)) | exact t_moveG | exact t_move | exact t_moveO | exact t_assignG | exact t_assignO | exact t_assign | exact t_pickT | exact t_pickF | exact t_add | exact t_sub | exact t_neg | exact t_not | exact t_min | exact t_max | exact t_lssT | exact t_lssF | exact t_lss | exact t_leqT | exact t_leqF | exact t_leq | exact t_gtrT | exact t_gtrF | exact t_gtr | exact t_geqT | exact t_geqF | exact t_geq | exact t_eqlT | exact t_eqlF | exact t_eql | exact t_neqT | exact t_neqF | exact t_neq | exact t_ext0 | exact t_ext1 | exact t_ext30 | exact t_ext31 | exact t_ext32 | exact t_len | exact t_lenN | exact t_lenR | exact t_idxN | exact t_idx | exact t_load | exact t_fa | exact t_fv | exact t_bl | exact t_sliceG | exact t_sliceLHN | exact t_sliceLN | exact t_sliceHN | exact t_sliceLH | exact t_sliceL | exact t_sliceH | exact t_bs | exact t_quo | exact t_rem | exact t_boxP) ?_ | refine c_opW t_app ?_))
    exact (ih (a', out ++ [(a' : Int)], f) ⟨by dsimp only; omega, by dsimp only; omega, by rw [List.length_append, List.length_singleton]; dsimp only; omega, by rw [hends, List.append_assoc]; rfl⟩ (by dsimp only; omega)).sub (by repeat (first | exact trivial | refine ⟨has_rfl rfl, ?_⟩ | refine ⟨has_nil rfl, ?_⟩ | refine ⟨has_nilS rfl, ?_⟩ | refine ⟨has_gr rfl, ?_⟩ | refine ⟨has_int rfl (by first | omega | (simp only [List.length_append, List.length_singleton]; omega)), ?_⟩))
  · have hae : a = w.length := by omega
    obtain ⟨f, rfl⟩ : ∃ g, f = g + 1 := ⟨f - 1, by omega⟩
    rw [walkE, if_neg (by omega), List.append_nil] at hends
    rw [hends]
    (repeat (first | refine c_seq ?_ | refine c_reg ?_ | refine c_rnil ?_ | refine c_block ?_ | refine c_inBlock ?_ | refine c_exit ?_ | refine c_skip ?_ | refine c_label ?_ | refine c_true ?_ | refine c_false ?_ | refine c_yes ?_ | refine c_no ?_ | refine c_op (by first | exact t_moveG | exact t_move | exact t_moveO | exact t_assignG | exact t_assignO | exact t_assign | exact t_pickT | exact t_pickF | exact t_add | exact t_sub | exact t_neg | exact t_not | exact t_min | exact t_max | exact t_lssT | exact t_lssF | exact t_lss | exact t_leqT | exact t_leqF | exact t_leq | exact t_gtrT | exact t_gtrF | exact t_gtr | exact t_geqT | exact t_geqF | exact t_geq | exact t_eqlT | exact t_eqlF | exact t_eql | exact t_neqT | exact t_neqF | exact t_neq | exact t_ext0 | exact t_ext1 | exact t_ext30 | exact t_ext31 | exact t_ext32 | exact t_len | exact t_lenN | exact t_lenR | exact t_idxN | exact t_idx | exact t_load | exact t_fa | exact t_fv | exact t_bl | exact t_sliceG | exact t_sliceLHN | exact t_sliceLN | exact t_sliceHN | exact t_sliceLH | exact t_sliceL | exact t_sliceH | exact t_bs | exact t_quo | exact t_rem | exact t_boxP) ?_ | refine c_opW t_app ?_))
    refine c_ret2 Try.func38 rfl ?_
    exact fun h1 h2 => ⟨_, _, rfl, h1, h2⟩

end Go.Proofs.Ytocoinkhbjlbhaa
