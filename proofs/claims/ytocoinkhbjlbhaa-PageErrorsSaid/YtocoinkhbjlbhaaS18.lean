/-
  Walk: the law of the errors.
-/
import Derived.Test.YtocoinkhbjlbhaaS17
namespace Go.Proofs.Ytocoinkhbjlbhaa
open Go Go.RowKit

theorem ordM_len : ∀ (l : List Int) (next k r : Int), ordM l next k = some r → r = next + l.length
  | [], next, k, r, h => by simp [ordM] at h; simp [h]
  | a :: l, next, k, r, h => by
    rw [ordM] at h
    split at h
    · cases h
    · have := ordM_len l (next + 1) k r h
      simp only [List.length_cons]
      omega

theorem sum_le {notes : List (List Line)} (h9 : ∀ j (hj : j < notes.length), notes[j].length ≤ 9) : ∀ l : List Int, (l.flatMap (noteAt notes)).length ≤ 9 * l.length
  | [] => by simp
  | i :: l => by
    rw [List.flatMap_cons, List.length_append, List.length_cons]
    have := sum_le h9 l
    have h1 : (noteAt notes i).length ≤ 9 := by
      unfold noteAt
      rcases Nat.lt_or_ge i.toNat notes.length with h | h
      · rw [List.getElem?_eq_getElem h]; exact h9 _ h
      · rw [List.getElem?_eq_none h]; simp
    omega

set_option maxHeartbeats 1000000 in
theorem errors_f {body : List Line} {notes : List (List Line)} {h : Int} : Fn Try.prog 4 [pSl eLine body, pSl (eSl eLine) notes, pI h] (pB true) := by
  refine fn_of ent4 Try.func4 rfl Try.ntmps4 rfl fun M0 w0 => ?_
  by_cases h1 : 30 < body.length
  · (repeat (first | refine c_seq ?_ | refine c_reg ?_ | refine c_rnil ?_ | refine c_block ?_ | refine c_inBlock ?_ | refine c_exit ?_ | refine c_skip ?_ | refine c_label ?_ | refine c_true ?_ | refine c_false ?_ | refine c_yes ?_ | refine c_no ?_ | refine c_op (by first | exact t_moveG | exact t_move | exact t_assignG | exact t_assign | exact t_pickT | exact t_pickF | exact t_add | exact t_sub | exact t_neg | exact t_not | exact t_min | exact t_max | exact t_lssT | exact t_lssF | exact t_lss | exact t_leqT | exact t_leqF | exact t_leq | exact t_gtrT | exact t_gtrF | exact t_gtr | exact t_geqT | exact t_geqF | exact t_geq | exact t_eqlT | exact t_eqlF | exact t_eql | exact t_neqT | exact t_neqF | exact t_neq | exact t_ext0 | exact t_ext1 | exact t_ext30 | exact t_ext31 | exact t_ext32 | exact t_len | exact t_lenN | exact t_lenR | exact t_idxN | exact t_idx | exact t_load | exact t_fa | exact t_fv | exact t_bl | exact t_sliceG | exact t_sliceLHN | exact t_sliceLN | exact t_sliceHN | exact t_sliceLH | exact t_sliceL | exact t_sliceH | exact t_bs | exact t_quo | exact t_rem | exact t_boxP | exact t_call (h := lives27_f)) ?_ | refine c_opW t_app ?_))
    refine c_ret1 Try.func4 rfl ?_
    exact fun h => h
  by_cases h2 : 30 < notes.length
  · (repeat (first | refine c_seq ?_ | refine c_reg ?_ | refine c_rnil ?_ | refine c_block ?_ | refine c_inBlock ?_ | refine c_exit ?_ | refine c_skip ?_ | refine c_label ?_ | refine c_true ?_ | refine c_false ?_ | refine c_yes ?_ | refine c_no ?_ | refine c_op (by first | exact t_moveG | exact t_move | exact t_assignG | exact t_assign | exact t_pickT | exact t_pickF | exact t_add | exact t_sub | exact t_neg | exact t_not | exact t_min | exact t_max | exact t_lssT | exact t_lssF | exact t_lss | exact t_leqT | exact t_leqF | exact t_leq | exact t_gtrT | exact t_gtrF | exact t_gtr | exact t_geqT | exact t_geqF | exact t_geq | exact t_eqlT | exact t_eqlF | exact t_eql | exact t_neqT | exact t_neqF | exact t_neq | exact t_ext0 | exact t_ext1 | exact t_ext30 | exact t_ext31 | exact t_ext32 | exact t_len | exact t_lenN | exact t_lenR | exact t_idxN | exact t_idx | exact t_load | exact t_fa | exact t_fv | exact t_bl | exact t_sliceG | exact t_sliceLHN | exact t_sliceLN | exact t_sliceHN | exact t_sliceLH | exact t_sliceL | exact t_sliceH | exact t_bs | exact t_quo | exact t_rem | exact t_boxP | exact t_call (h := lives27_f)) ?_ | refine c_opW t_app ?_))
    refine c_ret1 Try.func4 rfl ?_
    exact fun h => h
  (repeat (first | refine c_seq ?_ | refine c_reg ?_ | refine c_rnil ?_ | refine c_block ?_ | refine c_inBlock ?_ | refine c_exit ?_ | refine c_skip ?_ | refine c_label ?_ | refine c_true ?_ | refine c_false ?_ | refine c_yes ?_ | refine c_no ?_ | refine c_op (by first | exact t_moveG | exact t_move | exact t_assignG | exact t_assign | exact t_pickT | exact t_pickF | exact t_add | exact t_sub | exact t_neg | exact t_not | exact t_min | exact t_max | exact t_lssT | exact t_lssF | exact t_lss | exact t_leqT | exact t_leqF | exact t_leq | exact t_gtrT | exact t_gtrF | exact t_gtr | exact t_geqT | exact t_geqF | exact t_geq | exact t_eqlT | exact t_eqlF | exact t_eql | exact t_neqT | exact t_neqF | exact t_neq | exact t_ext0 | exact t_ext1 | exact t_ext30 | exact t_ext31 | exact t_ext32 | exact t_len | exact t_lenN | exact t_lenR | exact t_idxN | exact t_idx | exact t_load | exact t_fa | exact t_fv | exact t_bl | exact t_sliceG | exact t_sliceLHN | exact t_sliceLN | exact t_sliceHN | exact t_sliceLH | exact t_sliceL | exact t_sliceH | exact t_bs | exact t_quo | exact t_rem | exact t_boxP) ?_ | refine c_opW t_app ?_))
  refine c_loop (fun i : Nat => [(0, .pu (pSl eLine body)), (1, .pu (pSl (eSl eLine) notes)), (2, .pu (pI h)), (7, .pu (pI i))]) (fun i => i ≤ notes.length ∧ ∀ j (hj : j < notes.length), j < i → notes[j].length ≤ 9) (fun i => notes.length - i) 0 ⟨by omega, fun _ _ h => by omega⟩ (by repeat (first | exact trivial | refine ⟨has_rfl rfl, ?_⟩ | refine ⟨has_nil rfl, ?_⟩ | refine ⟨has_nilS rfl, ?_⟩ | refine ⟨has_gr rfl, ?_⟩ | refine ⟨has_int rfl (by omega), ?_⟩)) fun i ⟨hi, hpre⟩ ih => ?_
  (repeat (first | refine c_seq ?_ | refine c_reg ?_ | refine c_rnil ?_ | refine c_block ?_ | refine c_inBlock ?_ | refine c_exit ?_ | refine c_skip ?_ | refine c_label ?_ | refine c_true ?_ | refine c_false ?_ | refine c_yes ?_ | refine c_no ?_ | refine c_op (by first | exact t_moveG | exact t_move | exact t_assignG | exact t_assign | exact t_pickT | exact t_pickF | exact t_add | exact t_sub | exact t_neg | exact t_not | exact t_min | exact t_max | exact t_lssT | exact t_lssF | exact t_lss | exact t_leqT | exact t_leqF | exact t_leq | exact t_gtrT | exact t_gtrF | exact t_gtr | exact t_geqT | exact t_geqF | exact t_geq | exact t_eqlT | exact t_eqlF | exact t_eql | exact t_neqT | exact t_neqF | exact t_neq | exact t_ext0 | exact t_ext1 | exact t_ext30 | exact t_ext31 | exact t_ext32 | exact t_len | exact t_lenN | exact t_lenR | exact t_idxN | exact t_idx | exact t_load | exact t_fa | exact t_fv | exact t_bl | exact t_sliceG | exact t_sliceLHN | exact t_sliceLN | exact t_sliceHN | exact t_sliceLH | exact t_sliceL | exact t_sliceH | exact t_bs | exact t_quo | exact t_rem | exact t_boxP) ?_ | refine c_opW t_app ?_))
  refine c_if (fun hlt => ?_) fun hge => ?_
  · have hlt' : i < notes.length := by omega
    by_cases hz : 9 < notes[i].length
    · (repeat (first | refine c_seq ?_ | refine c_reg ?_ | refine c_rnil ?_ | refine c_block ?_ | refine c_inBlock ?_ | refine c_exit ?_ | refine c_skip ?_ | refine c_label ?_ | refine c_true ?_ | refine c_false ?_ | refine c_yes ?_ | refine c_no ?_ | refine c_op (by first | exact t_moveG | exact t_move | exact t_assignG | exact t_assign | exact t_pickT | exact t_pickF | exact t_add | exact t_sub | exact t_neg | exact t_not | exact t_min | exact t_max | exact t_lssT | exact t_lssF | exact t_lss | exact t_leqT | exact t_leqF | exact t_leq | exact t_gtrT | exact t_gtrF | exact t_gtr | exact t_geqT | exact t_geqF | exact t_geq | exact t_eqlT | exact t_eqlF | exact t_eql | exact t_neqT | exact t_neqF | exact t_neq | exact t_ext0 | exact t_ext1 | exact t_ext30 | exact t_ext31 | exact t_ext32 | exact t_len | exact t_lenN | exact t_lenR | exact t_idxN | exact t_idx | exact t_load | exact t_fa | exact t_fv | exact t_bl | exact t_sliceG | exact t_sliceLHN | exact t_sliceLN | exact t_sliceHN | exact t_sliceLH | exact t_sliceL | exact t_sliceH | exact t_bs | exact t_quo | exact t_rem | exact t_boxP | exact t_call (h := lives27_f)) ?_ | refine c_opW t_app ?_))
      refine c_ret1 Try.func4 rfl ?_
      exact fun h => h
    · (repeat (first | refine c_seq ?_ | refine c_reg ?_ | refine c_rnil ?_ | refine c_block ?_ | refine c_inBlock ?_ | refine c_exit ?_ | refine c_skip ?_ | refine c_label ?_ | refine c_true ?_ | refine c_false ?_ | refine c_yes ?_ | refine c_no ?_ | refine c_op (by first | exact t_moveG | exact t_move | exact t_assignG | exact t_assign | exact t_pickT | exact t_pickF | exact t_add | exact t_sub | exact t_neg | exact t_not | exact t_min | exact t_max | exact t_lssT | exact t_lssF | exact t_lss | exact t_leqT | exact t_leqF | exact t_leq | exact t_gtrT | exact t_gtrF | exact t_gtr | exact t_geqT | exact t_geqF | exact t_geq | exact t_eqlT | exact t_eqlF | exact t_eql | exact t_neqT | exact t_neqF | exact t_neq | exact t_ext0 | exact t_ext1 | exact t_ext30 | exact t_ext31 | exact t_ext32 | exact t_len | exact t_lenN | exact t_lenR | exact t_idxN | exact t_idx | exact t_load | exact t_fa | exact t_fv | exact t_bl | exact t_sliceG | exact t_sliceLHN | exact t_sliceLN | exact t_sliceHN | exact t_sliceLH | exact t_sliceL | exact t_sliceH | exact t_bs | exact t_quo | exact t_rem | exact t_boxP) ?_ | refine c_opW t_app ?_))
      refine (ih (i + 1) ⟨by omega, fun j hj hji => ?_⟩ (by omega)).sub (by repeat (first | exact trivial | refine ⟨has_rfl rfl, ?_⟩ | refine ⟨has_nil rfl, ?_⟩ | refine ⟨has_nilS rfl, ?_⟩ | refine ⟨has_gr rfl, ?_⟩ | refine ⟨has_int rfl (by omega), ?_⟩))
      rcases Nat.lt_or_ge j i with h | h
      · exact hpre j hj h
      · have : j = i := by omega
        subst this
        omega
  have h9 : ∀ j (hj : j < notes.length), notes[j].length ≤ 9 := fun j hj => hpre j hj (by omega)
  have hsz : chkM body notes h = 0 → body.length ≤ 1000000 ∧ sumR notes body ≤ 1000000 := fun hc => by
    obtain ⟨_, _, _, hord⟩ := chk_ok hc
    have e1 := ordM_len _ _ _ _ hord
    have e2 := sum_le h9 (refs body)
    exact ⟨by omega, by unfold sumR; omega⟩
  (repeat (first | refine c_seq ?_ | refine c_reg ?_ | refine c_rnil ?_ | refine c_block ?_ | refine c_inBlock ?_ | refine c_exit ?_ | refine c_skip ?_ | refine c_label ?_ | refine c_true ?_ | refine c_false ?_ | refine c_yes ?_ | refine c_no ?_ | refine c_op (by first | exact t_moveG | exact t_move | exact t_assignG | exact t_assign | exact t_pickT | exact t_pickF | exact t_add | exact t_sub | exact t_neg | exact t_not | exact t_min | exact t_max | exact t_lssT | exact t_lssF | exact t_lss | exact t_leqT | exact t_leqF | exact t_leq | exact t_gtrT | exact t_gtrF | exact t_gtr | exact t_geqT | exact t_geqF | exact t_geq | exact t_eqlT | exact t_eqlF | exact t_eql | exact t_neqT | exact t_neqF | exact t_neq | exact t_ext0 | exact t_ext1 | exact t_ext30 | exact t_ext31 | exact t_ext32 | exact t_len | exact t_lenN | exact t_lenR | exact t_idxN | exact t_idx | exact t_load | exact t_fa | exact t_fv | exact t_bl | exact t_sliceG | exact t_sliceLHN | exact t_sliceLN | exact t_sliceHN | exact t_sliceLH | exact t_sliceL | exact t_sliceH | exact t_bs | exact t_quo | exact t_rem | exact t_boxP | exact t_call (h := (setP_f hsz)) | exact t_call (h := (setR_f hsz)) | exact t_call (h := (samePages_f rfl)) | exact t_call (h := lives27_f)) ?_ | refine c_opW t_app ?_))
  refine c_ret1 Try.func4 rfl ?_
  exact fun h => h

theorem errors_w (M : Mut) (w : World) (vb vn : Value) (body : List Line) (notes : List (List Line)) (n : Int) (hm : MB M w) (hb : SlOf eLine M w vb body) (hn : SlOf (eSl eLine) M w vn notes) (hI : I64 n) :
    CallsV Try.prog 4 [vb, vn, .int .i64 n] w (fun u w' => u = .bool true ∧ Below w.heap.size w w') :=
  errors_f.run M w _ hm ⟨hb, hn, ⟨rfl, rng64 hI⟩, trivial⟩

end Go.Proofs.Ytocoinkhbjlbhaa
