/-
  Merged by prune.py from the texts T26e T26f T26g T26h T26i P26 M26c D9 D10 D11 D12 D13 D21 M27 S2 S3 S4.
-/
import Derived.Calls
import Derived.Orders
import Derived.Below
import Derived.KernelRfl
import Derived.WalkKit
import Derived.Laws.AppendOwn
import Derived.Laws.Rows
import Derived.Deep.Slices
import Derived.Laws.OwnMore
import Derived.Laws.MakeOwn
import Derived.Laws.CopyRow
import Derived.Still
import Derived.Lib.SliceRun
import Derived.Test.YtocoinkhbjlbhaaDoorChecked
import Derived.Lib.AppendZeros
import Derived.Scope
import Derived.Test.YtocoinkhbjlbhaaDoorPTx3
section
namespace Go.Proofs.YtocoinkhbjlbhaaDoor
open Go Go.RowKit
set_option maxHeartbeats 4000000 in
theorem endsR_f {w : List Int} {m : Int} : Fn Tryd.prog 60 [pSl eI w, pI m] (pT2 (pSl eI (if chk26 w m = 0 then endsM w m else [])) (pI (chk26 w m))) := by
  refine fn_of ent60 Tryd.func60 rfl Tryd.ntmps60 rfl fun M0 w0 => ?_
  refine c_have 0 (fun h => i_len26 h) fun hl1 => ?_
  by_cases hchk : chk26 w m = 0
  case neg =>
    rw [if_neg hchk]
    (repeat (first | refine c_seq ?_ | refine c_reg ?_ | refine c_rnil ?_ | refine c_true ?_ | refine c_op (by first | exact t_call (h := regular_f) | exact t_move | exact t_assign | exact t_neqT | fail) ?_ | fail))
    refine c_ret2 Tryd.func60 rfl ?_
    exact fun h1 h2 => ⟨_, _, rfl, by rw [show _ = _ from h1]; exact SlOf.nil _ _ _, h2⟩
  rw [if_pos hchk, hchk]
  obtain ⟨hn, hm1, hm2, hw⟩ := chk26_ok hchk
  (repeat (first | refine c_seq ?_ | refine c_reg ?_ | refine c_rnil ?_ | refine c_skip ?_ | refine c_false ?_ | refine c_op (by first | exact t_call (h := regular_f) | exact t_move | exact t_assign | exact t_add | exact t_neqF | exact t_len | fail) ?_ | fail))
  refine c_op (t_mk 1) ?_
  (repeat (first | refine c_seq ?_ | refine c_reg ?_ | refine c_rnil ?_ | refine c_op (by first | exact t_move | exact t_assignO | exact t_add | fail) ?_ | fail))
  refine c_op (t_mk 2) ?_
  (repeat (first | refine c_seq ?_ | refine c_reg ?_ | refine c_rnil ?_ | refine c_block ?_ | refine c_op (by first | exact t_move | exact t_assignO | exact t_assign | exact t_sub | fail) ?_ | fail))
  refine c_row 8 100001 fun b1 => c_row 9 100002 fun b2 => ?_
  refine c_loop (fun k : Nat => [(0, .pu (pSl eI w)), (1, .pu (pI m)), (7, .pu (pI w.length)), (8, .pu (pSr b1 (w.length + 1))), (9, .pu (pSr b2 (w.length + 1))), (10, .pu (pI ((k : Int) - 1))), (100001, .rw b1 1 eI (rowC m w k) 3), (100002, .rw b2 2 eI (rowE m w k) 3)])
    (fun k => k ≤ w.length) (fun k => k) w.length (Nat.le_refl _) ?_ fun k hk ih => ?_
  · (repeat' (first | exact trivial | refine ⟨?_, ?_⟩ | fail)) <;> (try first | exact has_rfl rfl | exact has_nil rfl | exact has_nilS rfl | exact has_gr rfl | exact has_int rfl (by first | omega | fail) | fail)
    · exact has_pu rfl (by simp [pSr])
    · exact has_pu rfl (by simp [pSr])
    · exact has_rwE rfl (by rw [rowC_end]; congr 1)
    · exact has_rwE rfl (by rw [rowE_end]; congr 1)
  (repeat (first | refine c_seq ?_ | refine c_reg ?_ | refine c_rnil ?_ | refine c_op (by first | exact t_move | exact t_geq | fail) ?_ | fail))
  refine c_if (fun hlt => ?_) fun hge => ?_
  · obtain ⟨i, rfl⟩ : ∃ i, k = i + 1 := ⟨k - 1, by omega⟩
    have hi : i < w.length := by omega
    have hCl := rowC_len (m := m) (w := w) (k := i + 1) hk
    have hEl := rowE_len (m := m) (w := w) (k := i + 1) hk
    refine c_to 10 (.pu (pI i)) (has_int rfl (by omega)) ?_
    (repeat (first | refine c_seq ?_ | refine c_reg ?_ | refine c_rnil ?_ | refine c_block ?_ | refine c_skip ?_ | refine (c_st 100001 (t_st 100001)) ?_ | refine c_op (by first | exact (t_idxRN 100001) | exact t_move | exact t_assign | exact t_add | fail) ?_ | fail))
    refine c_loop (fun x : Nat × Int × Int × Int => [(0, .pu (pSl eI w)), (1, .pu (pI m)), (7, .pu (pI w.length)), (8, .pu (pSr b1 (w.length + 1))), (9, .pu (pSr b2 (w.length + 1))), (10, .pu (pI i)), (11, .pu (pI x.2.1)), (12, .pu (pI (i + 1 + x.1 : Nat))),
        (100001, .rw b1 1 eI ((rowC m w (i + 1)).set i x.2.2.1) 3), (100002, .rw b2 2 eI ((rowE m w (i + 1)).set i x.2.2.2) 3)])
      (fun x => i + x.1 ≤ w.length ∧ x.2.1 ≤ m + 6 ∧ 0 ≤ x.2.1 ∧ (x.1 = 0 → x.2.1 = m + 6 ∧ x.2.2.1 = -1) ∧ (x.1 ≠ 0 → 0 ≤ x.2.2.1) ∧
        (i + x.1 < w.length → inn m ((w.drop i).drop x.1) ((dpl m (w.drop (i + 1)) (i + 1 : Nat)).drop x.1) (i + 1 + x.1 : Nat) x.2.1 x.2.2.1 x.2.2.2 = at26 (dpl m w 0) i) ∧ (i + x.1 = w.length → (x.2.2.1, x.2.2.2) = at26 (dpl m w 0) i))
      (fun x => w.length + 1 - x.1) (0, m + 6, -1, 0) ⟨Nat.le_of_lt hi, Int.le_refl _, by dsimp only; omega, fun _ => ⟨rfl, rfl⟩, fun h => absurd rfl h, fun _ => (at_inn hi).symm, fun h => absurd h (Nat.ne_of_lt hi)⟩ ?_ ?_
    · (repeat' (first | exact trivial | refine ⟨?_, ?_⟩ | fail)) <;> (try first | exact has_rfl rfl | exact has_nil rfl | exact has_nilS rfl | exact has_gr rfl | exact has_int rfl (by first | omega | fail) | fail)
      · exact has_rwE rfl (set_same (rowE_zero hi)).symm
    rintro ⟨kk, s, c, e⟩ ⟨hkk, hs1, hs2, hs3, hc0, hinn, hfin⟩ ihi
    dsimp only at hkk hs1 hs2 hs3 hc0 hinn hfin ihi ⊢
    by_cases hover : i + kk = w.length
    · have hfin := hfin hover
      (repeat (first | refine c_seq ?_ | refine c_reg ?_ | refine c_rnil ?_ | refine c_inBlock ?_ | refine c_exit ?_ | refine c_false ?_ | refine c_op (by first | exact t_move | exact t_assign | exact t_sub | exact t_leqF | fail) ?_ | fail))
      refine (ih i (by omega) (by omega)).sub ?_
      (repeat' (first | exact trivial | refine ⟨?_, ?_⟩ | fail)) <;> (try first | exact has_rfl rfl | exact has_nil rfl | exact has_nilS rfl | exact has_gr rfl | exact has_int rfl (by first | omega | fail) | fail)
      · exact has_rwE rfl (by rw [← rowC_set hi, ← hfin])
      · exact has_rwE rfl (by rw [← rowE_set hi, ← hfin])
    have hkk : i + kk < w.length := by omega
    have hinn := hinn hkk
    clear hfin
    have hx := hw _ (List.getElem_mem hkk)
    rw [inn_step hkk] at hinn
    have hv1 : ((rowC m w (i + 1)).set i c)[i + 1 + kk]? = some (at26 (dpl m w 0) (i + 1 + kk)).1 := by
      rw [List.getElem?_set_ne (by omega)]
      exact rowC_get (by omega) (by omega)
    have hv2 : ((rowC m w (i + 1)).set i c)[i]? = some c := List.getElem?_set_self (by omega)
    have hbd := at_bd ⟨hm1, hm2⟩ hw 500 (i + 1 + kk) (by omega) (by omega)
    by_cases hneg : s - (w[i + kk] + 6) < 0
    · rw [if_pos hneg] at hinn
      have hk0 : kk ≠ 0 := fun h => by have := hs3 h; omega
      (repeat (first | refine c_seq ?_ | refine c_reg ?_ | refine c_rnil ?_ | refine c_block ?_ | refine c_inBlock ?_ | refine c_exit ?_ | refine c_skip ?_ | refine c_true ?_ | refine c_op (by first | exact (t_idxE (n := i + kk) (hm := by omega)) | exact t_move | exact t_assign | exact t_sub | exact t_lssT | exact t_leqT | exact t_load | fail) ?_ | fail))
      refine (ih i (by omega) (by omega)).sub ?_
      (repeat' (first | exact trivial | refine ⟨?_, ?_⟩ | fail)) <;> (try first | exact has_rfl rfl | exact has_nil rfl | exact has_nilS rfl | exact has_gr rfl | exact has_int rfl (by first | omega | fail) | fail)
      · exact has_rwE rfl (by rw [← rowC_set hi, ← hinn])
      · exact has_rwE rfl (by rw [← rowE_set hi, ← hinn])
    rw [if_neg hneg] at hinn
    have es : s - 6 - w[i + kk] = s - (w[i + kk] + 6) := by omega
    have hsq0 := sq_nonneg (s - 6 - w[i + kk])
    have hsq1 : (s - 6 - w[i + kk]) * (s - 6 - w[i + kk]) ≤ 4024036 := Int.le_trans (Int.mul_le_mul (show _ ≤ (2006 : Int) by omega) (show _ ≤ (2006 : Int) by omega) (by omega) (by omega)) (by decide)
    have e1 : ((i + 1 + kk : Nat) : Int) + 1 = ((i + 1 + (kk + 1) : Nat) : Int) := by omega
    by_cases hend : i + kk + 1 = w.length
    · rw [if_pos hend] at hinn
      have hup : c < 0 ∨ 0 ≤ c := by omega
      rcases hup with hup | hup
      · (repeat (first | refine c_seq ?_ | refine c_reg ?_ | refine c_rnil ?_ | refine c_block ?_ | refine c_inBlock ?_ | refine c_skip ?_ | refine c_true ?_ | refine c_false ?_ | refine c_no ?_ | refine (c_st 100001 (t_st 100001)) ?_ | refine (c_st 100002 (t_st 100002)) ?_ | refine c_op (by first | exact (t_mul) | exact (t_idxE (n := i + kk) (hm := by omega)) | exact (t_idxRN 100001) | exact (t_idxRN 100002) | exact (t_loadRE 100001 (hv := hv1)) | exact (t_loadRE 100001 (hv := hv2)) | exact t_move | exact t_assign | exact t_pickT | exact t_add | exact t_sub | exact t_lssT | exact t_lssF | exact t_leqT | exact t_eqlT | exact t_load | fail) ?_ | fail))
        refine (ihi (kk + 1, s - 6 - w[i + kk], 0, ((i + 1 + kk : Nat) : Int)) ⟨by dsimp only; omega, by dsimp only; omega, by dsimp only; omega, fun h => absurd h (Nat.succ_ne_zero kk), fun _ => Int.le_refl _, fun h => by dsimp only at h; omega, fun _ => hinn⟩ (by dsimp only; omega)).sub ?_
        (repeat' (first | exact trivial | refine ⟨?_, ?_⟩ | fail)) <;> (try first | exact has_rfl rfl | exact has_nil rfl | exact has_nilS rfl | exact has_gr rfl | exact has_int rfl (by first | omega | fail) | fail)
        · exact has_rwE rfl (by rw [List.set_set])
        · exact has_rwE rfl (by rw [List.set_set])
      · (repeat (first | refine c_seq ?_ | refine c_reg ?_ | refine c_rnil ?_ | refine c_block ?_ | refine c_inBlock ?_ | refine c_skip ?_ | refine c_true ?_ | refine c_false ?_ | refine c_yes ?_ | refine (c_st 100001 (t_st 100001)) ?_ | refine (c_st 100002 (t_st 100002)) ?_ | refine c_op (by first | exact (t_mul) | exact (t_idxE (n := i + kk) (hm := by omega)) | exact (t_idxRN 100001) | exact (t_idxRN 100002) | exact (t_loadRE 100001 (hv := hv1)) | exact (t_loadRE 100001 (hv := hv2)) | exact t_move | exact t_assign | exact t_pickF | exact t_add | exact t_sub | exact t_lssF | exact t_leqT | exact t_eqlT | exact t_load | fail) ?_ | fail))
        refine (ihi (kk + 1, s - 6 - w[i + kk], 0, ((i + 1 + kk : Nat) : Int)) ⟨by dsimp only; omega, by dsimp only; omega, by dsimp only; omega, fun h => absurd h (Nat.succ_ne_zero kk), fun _ => Int.le_refl _, fun h => by dsimp only at h; omega, fun _ => hinn⟩ (by dsimp only; omega)).sub ?_
        (repeat' (first | exact trivial | refine ⟨?_, ?_⟩ | fail)) <;> (try first | exact has_rfl rfl | exact has_nil rfl | exact has_nilS rfl | exact has_gr rfl | exact has_int rfl (by first | omega | fail) | fail)
        · exact has_rwE rfl (by rw [List.set_set])
        · exact has_rwE rfl (by rw [List.set_set])
    rw [if_neg hend, ← es] at hinn
    by_cases hup : c < 0 ∨ (s - 6 - w[i + kk]) * (s - 6 - w[i + kk]) + (at26 (dpl m w 0) (i + 1 + kk)).1 ≤ c
    · rw [if_pos hup, e1] at hinn
      by_cases h0 : c < 0
      · (repeat (first | refine c_seq ?_ | refine c_reg ?_ | refine c_rnil ?_ | refine c_block ?_ | refine c_inBlock ?_ | refine c_skip ?_ | refine c_true ?_ | refine c_false ?_ | refine c_no ?_ | refine (c_st 100001 (t_st 100001)) ?_ | refine (c_st 100002 (t_st 100002)) ?_ | refine c_op (by first | exact (t_mul) | exact (t_idxE (n := i + kk) (hm := by omega)) | exact (t_idxRN 100001) | exact (t_idxRN 100002) | exact (t_loadRE 100001 (hv := hv1)) | exact (t_loadRE 100001 (hv := hv2)) | exact t_move | exact t_assign | exact t_pickT | exact t_add | exact t_sub | exact t_lssT | exact t_lssF | exact t_leqT | exact t_eqlF | exact t_load | fail) ?_ | fail))
        refine (ihi (kk + 1, s - 6 - w[i + kk], (s - 6 - w[i + kk]) * (s - 6 - w[i + kk]) + (at26 (dpl m w 0) (i + 1 + kk)).1, ((i + 1 + kk : Nat) : Int)) ⟨by dsimp only; omega, by dsimp only; omega, by dsimp only; omega, fun h => absurd h (Nat.succ_ne_zero kk), fun _ => by dsimp only; omega, fun _ => hinn, fun h => absurd h (by dsimp only; omega)⟩ (by dsimp only; omega)).sub ?_
        (repeat' (first | exact trivial | refine ⟨?_, ?_⟩ | fail)) <;> (try first | exact has_rfl rfl | exact has_nil rfl | exact has_nilS rfl | exact has_gr rfl | exact has_int rfl (by first | omega | fail) | fail)
        · exact has_rwE rfl (by rw [List.set_set])
        · exact has_rwE rfl (by rw [List.set_set])
      · have hle := hup.resolve_left h0
        (repeat (first | refine c_seq ?_ | refine c_reg ?_ | refine c_rnil ?_ | refine c_block ?_ | refine c_inBlock ?_ | refine c_skip ?_ | refine c_true ?_ | refine c_false ?_ | refine c_yes ?_ | refine (c_st 100001 (t_st 100001)) ?_ | refine (c_st 100002 (t_st 100002)) ?_ | refine c_op (by first | exact (t_mul) | exact (t_idxE (n := i + kk) (hm := by omega)) | exact (t_idxRN 100001) | exact (t_idxRN 100002) | exact (t_loadRE 100001 (hv := hv1)) | exact (t_loadRE 100001 (hv := hv2)) | exact t_move | exact t_assign | exact t_pickF | exact t_add | exact t_sub | exact t_lssF | exact t_leqT | exact t_eqlF | exact t_load | fail) ?_ | fail))
        refine (ihi (kk + 1, s - 6 - w[i + kk], (s - 6 - w[i + kk]) * (s - 6 - w[i + kk]) + (at26 (dpl m w 0) (i + 1 + kk)).1, ((i + 1 + kk : Nat) : Int)) ⟨by dsimp only; omega, by dsimp only; omega, by dsimp only; omega, fun h => absurd h (Nat.succ_ne_zero kk), fun _ => by dsimp only; omega, fun _ => hinn, fun h => absurd h (by dsimp only; omega)⟩ (by dsimp only; omega)).sub ?_
        (repeat' (first | exact trivial | refine ⟨?_, ?_⟩ | fail)) <;> (try first | exact has_rfl rfl | exact has_nil rfl | exact has_nilS rfl | exact has_gr rfl | exact has_int rfl (by first | omega | fail) | fail)
        · exact has_rwE rfl (by rw [List.set_set])
        · exact has_rwE rfl (by rw [List.set_set])
    · rw [if_neg hup, e1] at hinn
      have h1 : ¬ c < 0 := fun h => hup (.inl h)
      have h2 : c < (s - 6 - w[i + kk]) * (s - 6 - w[i + kk]) + (at26 (dpl m w 0) (i + 1 + kk)).1 := by
        have : ¬ _ := fun h => hup (.inr h)
        omega
      (repeat (first | refine c_seq ?_ | refine c_reg ?_ | refine c_rnil ?_ | refine c_block ?_ | refine c_inBlock ?_ | refine c_skip ?_ | refine c_true ?_ | refine c_false ?_ | refine c_yes ?_ | refine c_op (by first | exact (t_mul) | exact (t_idxE (n := i + kk) (hm := by omega)) | exact (t_idxRN 100001) | exact (t_loadRE 100001 (hv := hv1)) | exact (t_loadRE 100001 (hv := hv2)) | exact t_move | exact t_assign | exact t_pickF | exact t_add | exact t_sub | exact t_lssF | exact t_leqT | exact t_leqF | exact t_eqlF | exact t_load | fail) ?_ | fail))
      exact (ihi (kk + 1, s - 6 - w[i + kk], c, e) ⟨by dsimp only; omega, by dsimp only; omega, by dsimp only; omega, fun h => absurd h (Nat.succ_ne_zero kk), fun _ => by dsimp only; omega, fun _ => hinn, fun h => absurd h (by dsimp only; omega)⟩ (by dsimp only; omega)).sub (by repeat (first | exact trivial | refine ⟨has_rfl rfl, ?_⟩ | fail))
  have hk0 : k = 0 := by omega
  subst hk0
  (repeat (first | refine c_seq ?_ | refine c_reg ?_ | refine c_rnil ?_ | refine c_block ?_ | refine c_exit ?_ | refine c_op (by first | exact t_assign | fail) ?_ | fail))
  refine c_loop (fun x : Nat × List Int × Nat => [(7, .pu (pI w.length)), (9, .pu (pSr b2 (w.length + 1))), (14, .gr eI x.2.1 3 3), (15, .pu (pI x.1)), (100002, .rw b2 2 eI (rowE m w 0) 3)])
    (fun x => x.1 ≤ w.length ∧ w.length < x.1 + x.2.2 ∧ x.2.1.length ≤ x.1 ∧ endsM w m = x.2.1 ++ walkE (dpl m w 0) w.length x.2.2 x.1) (fun x => x.2.2) (0, [], w.length + 1) ⟨Nat.zero_le _, by dsimp only; omega, by simp, rfl⟩ (by repeat (first | exact trivial | refine ⟨has_rfl rfl, ?_⟩ | refine ⟨has_nil rfl, ?_⟩ | fail)) ?_
  rintro ⟨a, out, f⟩ ⟨ha, hf, ho, hends⟩ ih
  dsimp only at ha hf ho hends ih ⊢
  (repeat (first | refine c_seq ?_ | refine c_reg ?_ | refine c_rnil ?_ | refine c_op (by first | exact t_move | exact t_lss | fail) ?_ | fail))
  refine c_if (fun hlt => ?_) fun hge2 => ?_
  · have ha2 : a < w.length := by omega
    obtain ⟨f, rfl⟩ : ∃ g, f = g + 1 := ⟨f - 1, by omega⟩
    have hB := at_best m hm1 hw a ha2
    have hul : (w.drop a).length = w.length - a := List.length_drop
    have h1 := hB.lo
    have h2 := hB.hi
    rw [walkE_cons (by omega)] at hends
    obtain ⟨a', ha'⟩ : ∃ a' : Nat, (at26 (dpl m w 0) a).2 = (a' : Int) := ⟨(at26 (dpl m w 0) a).2.toNat, by omega⟩
    have hv := rowE_get (m := m) (w := w) (k := 0) (j := a) (by omega) (by omega)
    rw [ha'] at hends hv h1 h2
    (repeat (first | refine c_seq ?_ | refine c_reg ?_ | refine c_rnil ?_ | refine c_block ?_ | refine c_inBlock ?_ | refine c_skip ?_ | refine c_op (by first | exact (t_idxRN 100002) | exact (t_loadRE 100002 (hv := hv)) | exact t_moveG | exact t_move | exact t_assignG | exact t_assign | exact t_bs | fail) ?_ | refine c_opW t_app ?_ | fail))
    exact (ih (a', out ++ [(a' : Int)], f) ⟨by dsimp only; omega, by dsimp only; omega, by rw [List.length_append, List.length_singleton]; dsimp only; omega, by rw [hends, List.append_assoc]; rfl⟩ (by dsimp only; omega)).sub (by repeat (first | exact trivial | refine ⟨has_rfl rfl, ?_⟩ | fail))
  · have hae : a = w.length := by omega
    obtain ⟨f, rfl⟩ : ∃ g, f = g + 1 := ⟨f - 1, by omega⟩
    rw [walkE, if_neg (by omega), List.append_nil] at hends
    rw [hends]
    (repeat (first | refine c_seq ?_ | refine c_reg ?_ | refine c_rnil ?_ | refine c_exit ?_ | refine c_op (by first | exact t_moveG | exact t_assignG | exact t_assign | fail) ?_ | fail))
    refine c_ret2 Tryd.func60 rfl ?_
    exact fun h1 h2 => ⟨_, _, rfl, h1, h2⟩
end Go.Proofs.YtocoinkhbjlbhaaDoor
end

section
namespace Go.Proofs.YtocoinkhbjlbhaaDoor
open Go Go.RowKit
class ICc (P : Program) (t : TypeId) (k : outParam IntKind) : Prop where
  out : P.underlying t = some (.int k)
instance : ICc Tryd.prog 3 .i64 := ⟨Tryd.underlying3⟩
instance : ICc Tryd.prog 86 .u64 := ⟨Tryd.underlying86⟩
instance : ICc Tryd.prog 123 .u64 := ⟨Tryd.underlying123⟩
theorem wrap_u64 {n : Int} (h : 0 ≤ n ∧ n ≤ 18446744073709551615) : IntKind.wrap .u64 n = n := by
  have e : n % 18446744073709551616 = n := Int.emod_eq_of_lt h.1 (by omega)
  simp [IntKind.wrap, IntKind.bits, IntKind.signed, e]
theorem wrap_i64 {n : Int} (h : 0 ≤ n ∧ n ≤ 9223372036854775807) : IntKind.wrap .i64 n = n := by
  have e : n % 18446744073709551616 = n := Int.emod_eq_of_lt h.1 (by omega)
  simp [IntKind.wrap, IntKind.bits, IntKind.signed, e]
  omega
theorem rngU {n : Int} : Rng .u64 n := ⟨(fun h => by cases h), (fun h => by cases h)⟩
section
variable {P : Program} {N : Nat} {G : TF} {d : Option Tmp} {ty : TypeId} {pos : String} {aft : Array Edge} {g : Option (Nat × Bool)} {x y : Operand} {m n : Int} {t u : TypeId}
theorem t_cvU {k : IntKind} (hx : topP G x = some (pK k n) := by rfl) (ht : ICc P u .u64 := by infer_instance) (hs : ICc P t k := by infer_instance) (h : 0 ≤ n ∧ n ≤ 9223372036854775807 := by omega) : TOp P N ⟨d, .convert t u x, ty, pos, aft, g⟩ G [] (.pu (pK .u64 n)) := .pure [x] (by simp [Op.operands]) fun {B M w fr} hf => by
  obtain ⟨_, h0, rfl, _⟩ := hf.op hx (by simp)
  have hk : P.intKind u = .u64 := by simp [Program.intKind, ht.out]
  have hrun := run_convert_int (P := P) w t u k n (by rw [hs.out]; rfl) (by rw [hk]; exact ht.out)
  rw [hk, wrap_u64 (by omega)] at hrun
  exact OP.val (fun a ha => by simp only [execOp, ha.eval h0, Sem.run_bind, hrun]; rfl) ⟨rfl, rfl, rngU⟩
theorem t_cvI {k : IntKind} (hx : topP G x = some (pK k n) := by rfl) (ht : ICc P u .i64 := by infer_instance) (hs : ICc P t k := by infer_instance) (h : 0 ≤ n ∧ n ≤ 9223372036854775807 := by omega) : TOp P N ⟨d, .convert t u x, ty, pos, aft, g⟩ G [] (.pu (pK .i64 n)) := .pure [x] (by simp [Op.operands]) fun {B M w fr} hf => by
  obtain ⟨_, h0, rfl, _⟩ := hf.op hx (by simp)
  have hk : P.intKind u = .i64 := by simp [Program.intKind, ht.out]
  have hrun := run_convert_int (P := P) w t u k n (by rw [hs.out]; rfl) (by rw [hk]; exact ht.out)
  rw [hk, wrap_i64 h] at hrun
  exact OP.val (fun a ha => by simp only [execOp, ha.eval h0, Sem.run_bind, hrun]; rfl) ⟨rfl, rfl, rng64 (by omega)⟩
theorem t_mulU (hx : topP G x = some (pK .u64 m) := by rfl) (hy : topP G y = some (pK .u64 n) := by rfl) (r : Int) (he : m * n = r) (hr : 0 ≤ r ∧ r ≤ 18446744073709551615) : TOp P N ⟨d, .binOp .mul t x y u, ty, pos, aft, g⟩ G [] (.pu (pK .u64 r)) := .pure [x, y] (by simp [Op.operands]) fun hf => by
  obtain ⟨_, h0, rfl, _⟩ := hf.op hx (by simp)
  obtain ⟨_, h1, rfl, _⟩ := hf.op hy (by simp)
  exact OP.val (v := .int .u64 r) (fun a ha => by simp [execOp, ha.eval h0, ha.eval h1, eqGuard_at_int, binOp_mul, Op.intArith, he, wrap_u64 hr]) ⟨rfl, rfl, rngU⟩
theorem t_addU (hx : topP G x = some (pK .u64 m) := by rfl) (hy : topP G y = some (pK .u64 n) := by rfl) (hr : 0 ≤ m + n ∧ m + n ≤ 18446744073709551615 := by omega) : TOp P N ⟨d, .binOp .add t x y u, ty, pos, aft, g⟩ G [] (.pu (pK .u64 (m + n))) := .pure [x, y] (by simp [Op.operands]) fun hf => by
  obtain ⟨_, h0, rfl, _⟩ := hf.op hx (by simp)
  obtain ⟨_, h1, rfl, _⟩ := hf.op hy (by simp)
  exact OP.val (v := .int .u64 (m + n)) (fun a ha => by simp [execOp, ha.eval h0, ha.eval h1, eqGuard_at_int, binOp_add, Op.intArith, wrap_u64 hr]) ⟨rfl, rfl, rngU⟩
theorem and_mask {n : Int} (h : 0 ≤ n ∧ n ≤ 4294967295) : (((BitVec.ofInt 64 n) &&& (BitVec.ofInt 64 4294967295)).toNat : Int) = n := by
  obtain ⟨k, rfl⟩ : ∃ k : Nat, n = k := ⟨n.toNat, by omega⟩
  have e1 : (BitVec.ofInt 64 (k : Int)).toNat = k := by
    rw [BitVec.toNat_ofInt]
    have : ((k : Int) % ((2 ^ 64 : Nat) : Int)) = k := Int.emod_eq_of_lt (by omega) (by omega)
    rw [this, Int.toNat_natCast]
  have e2 : (BitVec.ofInt 64 4294967295).toNat = 2 ^ 32 - 1 := by rfl
  rw [BitVec.toNat_and, e1, e2, Nat.and_two_pow_sub_one_eq_mod, Nat.mod_eq_of_lt (by omega)]
theorem t_mask (hx : topP G x = some (pK .u64 n) := by rfl) (hy : topP G y = some (pK .u64 4294967295) := by rfl) (h : 0 ≤ n ∧ n ≤ 4294967295 := by omega) : TOp P N ⟨d, .binOp .and t x y u, ty, pos, aft, g⟩ G [] (.pu (pK .u64 n)) := .pure [x, y] (by simp [Op.operands]) fun hf => by
  obtain ⟨_, h0, rfl, _⟩ := hf.op hx (by simp)
  obtain ⟨_, h1, rfl, _⟩ := hf.op hy (by simp)
  have hm : (((BitVec.ofInt IntKind.u64.bits n) &&& (BitVec.ofInt IntKind.u64.bits 4294967295)).toNat : Int) = n := and_mask h
  exact OP.val (v := .int .u64 n) (fun a ha => by
    simp only [execOp, ha.eval h0, ha.eval h1, eqGuard_at_int, binOp_and, Op.intBits]
    simp only [hm, wrap_u64 (show 0 ≤ n ∧ n ≤ 18446744073709551615 by omega)]
    rfl) ⟨rfl, rfl, rngU⟩
theorem t_shr0 (hx : topP G x = some (pK .u64 n) := by rfl) (hy : topP G y = some (pK .u64 32) := by rfl) (h : 0 ≤ n ∧ n ≤ 4294967295 := by omega) : TOp P N ⟨d, .binOp .shr t x y u, ty, pos, aft, g⟩ G [] (.pu (pK .u64 0)) := .pure [x, y] (by simp [Op.operands]) fun hf => by
  obtain ⟨_, h0, rfl, _⟩ := hf.op hx (by simp)
  obtain ⟨_, h1, rfl, _⟩ := hf.op hy (by simp)
  have e : n.fdiv 4294967296 = 0 := by
    rw [Int.fdiv_eq_ediv_of_nonneg _ (by omega)]
    exact Int.ediv_eq_zero_of_lt h.1 (by omega)
  exact OP.val (v := .int .u64 0) (fun a ha => by simp [execOp, ha.eval h0, ha.eval h1, eqGuard_at_int, binOp_shr, Op.shift, IntKind.bits, e]) ⟨rfl, rfl, rngU⟩
end
theorem mul64_f {k : Int} (h : 0 ≤ k ∧ k ≤ 1000000) : Fn Tryd.prog 90 [pK .u64 1, pK .u64 k] (pT2 (pK .u64 0) (pK .u64 k)) := by
  refine fn_of ent90 Tryd.func90 rfl Tryd.ntmps90 rfl fun M0 w0 => ?_
  (repeat (first | refine c_seq ?_ | refine c_reg ?_ | refine c_rnil ?_ | refine c_op (by first | exact (t_mask) | exact (t_shr0) | exact (t_addU) | exact (t_mulU (r := k) (he := by omega) (hr := by omega)) | exact (t_mulU (r := 0) (he := by omega) (hr := by omega)) | exact t_move | exact t_assign | fail) ?_ | fail))
  refine c_ret2 Tryd.func90 rfl ?_
  exact fun h1 h2 => ⟨_, _, rfl, h1, h2⟩
theorem mul_f {k : Int} (h : 0 ≤ k ∧ k ≤ 1000000) : Fn Tryd.prog 74 [pK .u64 1, pK .u64 k] (pT2 (pK .u64 0) (pK .u64 k)) := by
  refine fn_of ent74 Tryd.func74 rfl Tryd.ntmps74 rfl fun M0 w0 => ?_
  (repeat (first | refine c_seq ?_ | refine c_reg ?_ | refine c_rnil ?_ | refine c_skip ?_ | refine c_false ?_ | refine c_op (by first | exact t_call (h := (mul64_f h)) | exact t_move | exact t_assign | exact t_ext0 | exact t_ext1 | fail) ?_ | fail))
  refine c_ret2 Tryd.func74 rfl ?_
  exact fun h1 h2 => ⟨_, _, rfl, h1, h2⟩
end Go.Proofs.YtocoinkhbjlbhaaDoor
end

section
namespace Go.Proofs.YtocoinkhbjlbhaaDoor
open Go Go.RowKit
theorem cssI {M : Mut} {w : World} : ∀ {l : List Int} {css : List Value}, CSS eI M w css l ↔ css = l.map (.int .i64) ∧ ∀ n ∈ l, I64 n
  | [], css => by simp [CSS]
  | n :: l, css => by
    simp only [CSS]
    constructor
    · rintro ⟨a, b, rfl, ⟨rfl, h, _⟩, h2⟩
      obtain ⟨rfl, h3⟩ := cssI.1 h2
      exact ⟨rfl, fun m hm => by
        rcases List.mem_cons.1 hm with rfl | hm
        · exact h rfl
        · exact h3 m hm⟩
    · rintro ⟨rfl, h⟩
      exact ⟨[.int .i64 n], l.map (.int .i64), rfl, ⟨rfl, fun _ => h n (by simp), fun e => by cases e⟩, cssI.2 ⟨rfl, fun m hm => h m (by simp [hm])⟩⟩
def over (l : List Int) (off : Nat) (s : List Int) : List Int := l.take off ++ s ++ l.drop (off + s.length)
theorem over_len {l s : List Int} {off : Nat} (h : off + s.length ≤ l.length) : (over l off s).length = l.length := by
  unfold over
  simp only [List.length_append, List.length_take, List.length_drop]
  omega
section
variable {P : Program} {N : Nat} {fr : Fr} {w : World} {Ψ : Value → World → Prop} {d : Option Tmp} {ty : TypeId} {pos : String} {aft : Array Edge} {g : Option (Nat × Bool)}
theorem op_copyI {M : Mut} {w0 : World} {b tag off m cap : Nat} {l s : List Int} {t e : TypeId} {x y : Operand} {a2 : Option Addr} {len cap2 k : Nat} (ht : P.underlying t = some (.slice e)) (hE : TE P e eI)
    (hx : opv fr x = some (.slice (some ⟨b, off, none⟩) m cap)) (hy : opv fr y = some (.slice a2 len cap2)) (hk : min m len = k) (hs : (Builtin.firstCells 1 k (.slice a2 len cap2)).run P w = .ok (s.map (Value.int .i64)).toArray w) (_hsk : s.length = k)
    (hI : ∀ n ∈ s, I64 n) (hB : w0.heap.size ≤ b) (hb : ∃ css, CSS eI M w css l ∧ Box M w b tag css e) (hf : off + s.length ≤ l.length)
    (h : ∀ w', (∃ css, CSS eI M w' css (over l off s) ∧ Box M w' b tag css e) → St w0.heap.size (some tag) M w M w' → Ψ (.int .i64 k) w') :
    OP P N ⟨d, .call ⟨.builtin .copy, #[x, y], #[t, t]⟩, ty, pos, aft, g⟩ fr w Ψ := by
  obtain ⟨z, hz, hT⟩ := hE
  obtain ⟨css, c1, hb⟩ := hb
  obtain ⟨rfl, hI2⟩ := cssI.1 c1
  have hst := run_storeCells_at P b off e (s.map (Value.int .i64)) 0 (l.map (Value.int .i64)).toArray w hb.heap (by simpa using hf) (fun v hv => by
    obtain ⟨n, _, rfl⟩ := List.mem_map.1 hv
    rfl)
  have hM : M = M.set b (some (0, tag)) := by
    funext k
    unfold Mut.set
    split
    · rename_i hk; subst hk; exact hb.mark
    · rfl
  have hcur : (List.take (off + 0) (l.map (Value.int .i64)).toArray.toList ++ s.map (Value.int .i64) ++ List.drop (off + 0 + (s.map (Value.int .i64)).length) (l.map (Value.int .i64)).toArray.toList) = (over l off s).map (Value.int .i64) := by
    unfold over
    simp
  rw [hcur] at hst
  have hS : St w0.heap.size (some tag) M w M (w.setRow b ((over l off s).map (Value.int .i64)).toArray) := by
    have := St.write (M := M) (w := w) (w' := w.setRow b ((over l off s).map (Value.int .i64)).toArray) (k := 0) (k' := 0) hB hb.lt hb.mark rfl (Nat.le_refl _) rfl rfl rfl (by simp [World.setRow]) (fun k hk => setRow_other w b k _ hk) (fun off ho => by omega)
    rwa [← hM] at this
  refine OP.val (v := .int .i64 k) (w' := w.setRow b ((over l off s).map (Value.int .i64)).toArray) (fun a ha => ?_) (h _ ⟨_, cssI.2 ⟨rfl, fun n hn => ?_⟩, ⟨setRow_heap w b _ _ e _ hb.heap, hb.mark⟩⟩ hS)
  · simp only [execOp, resolve, invoke, builtin, Sem.run_bind, Sem.run_pure, Result.andThen_ok, List.map_toArray, List.map_cons, List.map_nil, ha.eval hx, ha.eval hy]
    have hsz : (sizeOf e).run P w = .ok 1 w := hT.run_sizeOf (w := w)
    have hk2 : len.min m = k := by rw [show len.min m = min len m from rfl, Nat.min_comm]; exact hk
    simp [Builtin.copy_, run_underlying ht, Builtin.lenOf, hk2, hsz, hs, hst, goInt]
  · unfold over at hn
    rcases List.mem_append.1 hn with hn | hn
    · rcases List.mem_append.1 hn with hn | hn
      · exact hI2 n (List.mem_of_mem_take hn)
      · exact hI n hn
    · exact hI2 n (List.mem_of_mem_drop hn)
end
section
variable {P : Program} {N : Nat} {G : TF} {d : Option Tmp} {ty : TypeId} {pos : String} {aft : Array Edge} {g : Option (Nat × Bool)}
theorem t_sliceRL {α : Type} {E : Enc α} {x lo : Operand} {b n : Nat} {t e : TypeId} {k : IntKind} {m : Int} (hx : topP G x = some (pSr b n) := by rfl) (h1 : topP G lo = some (pK k m) := by rfl)
    (ht : USl P t e := by infer_instance) (hE : TEc P e E := by infer_instance) (hb : 0 ≤ m ∧ m < n := by omega) :
    TOp P N ⟨d, .slice t x (some lo) none none, ty, pos, aft, g⟩ G [] (.pu (pv (.slice (some ⟨b, m.toNat * E.sz, none⟩) (n - m.toNat) (n - m.toNat)))) := .pure [x, lo] (by simp [Op.operands]) fun {B M w fr} hf => by
  obtain ⟨_, k0, rfl⟩ := hf.op hx (by simp)
  obtain ⟨_, k2, rfl, _⟩ := hf.op h1 (by simp)
  obtain ⟨z, hz, hT⟩ := hE.out
  refine OP.val (w' := w) (fun a' ha => ?_) ⟨rfl, rfl⟩
  have b2 : (Instr.sliceBound (.int k m) n .sliceB).run P w = .ok m.toNat w := run_bound (by omega)
  have hne : ¬ n = m.toNat := by omega
  simp only [execOp, ha.eval k0, ha.eval k2, Option.map_some, Option.map_none]
  simp [Instr.sliceAt, Instr.slice, run_underlying ht.out, Instr.sliceBounds, b2, hT.run_sizeOf (w := w), hne, Addr.add_lit]
theorem t_sliceRH {x hi : Operand} {b n : Nat} {t e : TypeId} {k : IntKind} {m : Int} (hx : topP G x = some (pSr b n) := by rfl) (h1 : topP G hi = some (pK k m) := by rfl)
    (ht : USl P t e := by infer_instance) (hE : TEc P e eI := by infer_instance) (hb : 0 ≤ m ∧ m ≤ n := by omega) :
    TOp P N ⟨d, .slice t x none (some hi) none, ty, pos, aft, g⟩ G [] (.pu (pv (.slice (some ⟨b, 0, none⟩) m.toNat n))) := .pure [x, hi] (by simp [Op.operands]) fun {B M w fr} hf => by
  obtain ⟨_, k0, rfl⟩ := hf.op hx (by simp)
  obtain ⟨_, k2, rfl, _⟩ := hf.op h1 (by simp)
  obtain ⟨z, hz, hT⟩ := hE.out
  refine OP.val (w' := w) (fun a' ha => ?_) ⟨rfl, rfl⟩
  have b2 : (Instr.sliceBound (.int k m) n .sliceAcap).run P w = .ok m.toNat w := run_bound (by omega)
  simp only [execOp, ha.eval k0, ha.eval k2, Option.map_some, Option.map_none]
  simp [Instr.sliceAt, Instr.slice, run_underlying ht.out, Instr.sliceBounds, b2, hT.run_sizeOf (w := w), Addr.add_lit]
end
section
variable {P : Program} {f : FuncId} {N : Nat} {M0 : Mut} {w0 : World} {R : Value → World → Prop} {G : TF} {k : List Item}
variable {ops : Array Oper} {d : Nat} {ty : TypeId} {pos : String} {aft : Array Edge} {rest : List Oper}
theorem c_copy {x y : Operand} {b n tag : Nat} {l s : List Int} {t e : TypeId} (key : Nat) (hk : RLt P f N M0 w0 ops k R rest ((d, .pu (pI s.length)) :: (key, .rw b tag eI (over l 0 s) e) :: dropW [tag] G))
    (hx : topP G x = some (pSr b n) := by rfl) (hy : topP G y = some (pSl eI s) := by rfl) (hg : tlook G key = some (.rw b tag eI l e) := by rfl) (ht : USl P t e := by infer_instance) (hE : TEc P e eI := by infer_instance)
    (hn : s.length ≤ n := by omega) (hl : s.length ≤ l.length := by omega) (hd : d < N := by decide) : RLt P f N M0 w0 ops k R (⟨some d, .call ⟨.builtin .copy, #[x, y], #[t, t]⟩, ty, pos, aft, none⟩ :: rest) G := ⟨fun {M w fr} hr hf => by
  obtain ⟨_, k0, rfl⟩ := hf.op0 hx (fun _ _ => trivial)
  obtain ⟨v, k1, k2⟩ := hf.op0 hy (fun _ _ => trivial)
  obtain ⟨hB, hbx⟩ := hf.out key _ hg (.inr trivial)
  have hsl := k2.le
  obtain ⟨a, cap, f1, f2, f3, f4, f5, f6⟩ := k2.ex
  subst f1
  have hcss : (∀ n ∈ s, I64 n) ∧ (Builtin.firstCells 1 s.length (.slice a s.length cap)).run P w = .ok (s.map (Value.int .i64)).toArray w := by
    cases a with
    | none =>
      have := f4 rfl
      have : s = [] := List.eq_nil_of_length_eq_zero (by omega)
      subst this
      exact ⟨(fun n hn => by cases hn), rfl⟩
    | some ad =>
      obtain ⟨css, c1, c2⟩ := CSS.of_elems (f6 ad rfl)
      obtain ⟨rfl, hI⟩ := cssI.1 c1
      exact ⟨hI, run_firstCells_some (P := P) w 1 s.length ad s.length cap _ c1.len (fun j v h => (c2 j v h).1)⟩
  refine rl_step hd (op_copyI (M := M) (w0 := w0) (b := b) (tag := tag) (off := 0) (l := l) (s := s) (len := s.length) (k := s.length) ht.out hE.out k0 k1 (Nat.min_eq_right hn) hcss.2 rfl hcss.1 hB hbx (by omega) fun w' h1 h2 => ?_)
  have hs := StW.st h2
  exact hk.out (hr.stw hs) (Fit.cons (T := .pu (pI s.length)) (Fit.hide (T := .rw b tag eI (over l 0 s) e) (hf.after hs) ⟨hB, h1⟩) ⟨rfl, rng64 (by omega)⟩)⟩
theorem q_copy {i n' : Nat} {listed : Array Bool} {x y : Operand} {b n tag off : Nat} {l : List Int} {t e : TypeId} (key : Nat) (hr : Region.ready .any ops listed = [i]) (ho : ops[i]? = some ⟨some d, .call ⟨.builtin .copy, #[x, y], #[t, t]⟩, ty, pos, aft, none⟩)
    (hk : RTt P f N M0 w0 ops k R n' (listed.setIfInBounds i true) ((d, .pu (pI (min (n - off) off : Nat))) :: (key, .rw b tag eI (over l off (l.take (min (n - off) off))) e) :: dropW [tag] G))
    (hx : topP G x = some (pv (.slice (some ⟨b, off * eI.sz, none⟩) (n - off) (n - off))) := by rfl) (hy : topP G y = some (pv (.slice (some ⟨b, 0, none⟩) off n)) := by rfl) (hg : tlook G key = some (.rw b tag eI l e) := by rfl) (ht : USl P t e := by infer_instance)
    (hE : TEc P e eI := by infer_instance) (hn : l.length = n) (hof : off ≤ n) (hnn : n ≤ 9223372036854775807) (hd : d < N := by decide) : RTt P f N M0 w0 ops k R (n' + 1) listed G := ⟨fun {M w fr} hrn hf => by
  obtain ⟨_, k0, rfl⟩ := hf.op0 hx (fun _ _ => trivial)
  obtain ⟨_, k1, rfl⟩ := hf.op0 hy (fun _ _ => trivial)
  obtain ⟨hB, hbx⟩ := hf.out key _ hg (.inr trivial)
  have hbx' := hbx
  obtain ⟨css, c1, hb⟩ := hbx'
  obtain ⟨rfl, hI⟩ := cssI.1 c1
  have hlt : (l.take (min (n - off) off)).length = min (n - off) off := by rw [List.length_take]; omega
  have hcs : (Builtin.firstCells 1 (min (n - off) off) (.slice (some ⟨b, 0, none⟩) off n)).run P w = .ok ((l.take (min (n - off) off)).map (Value.int .i64)).toArray w := by
    refine run_firstCells_some (P := P) w 1 _ ⟨b, 0, none⟩ off n _ (by rw [List.length_map, hlt, Nat.mul_one]) (fun j v h => ?_)
    rw [Addr.add_lit, Nat.zero_add, hb.cell, ← h, List.map_take, List.getElem?_take]
    rw [List.map_take, List.getElem?_take] at h
    split at h
    · rename_i hj
      rw [if_pos hj]
    · cases h
  refine rt_one hr ho hd (op_copyI (M := M) (w0 := w0) (b := b) (tag := tag) (off := off) (l := l) (s := l.take (min (n - off) off)) (len := off) (k := min (n - off) off) ht.out hE.out (by rw [show off * eI.sz = off from Nat.mul_one _] at k0; exact k0) k1 rfl hcs hlt
    (fun n hn => hI n (List.mem_of_mem_take hn)) hB hbx (by rw [hlt]; omega) fun w' h1 h2 => ?_)
  have hs := StW.st h2
  exact hk.out (hrn.stw hs) (Fit.cons (T := .pu (pI (min (n - off) off : Nat))) (Fit.hide (T := .rw b tag eI (over l off (l.take (min (n - off) off))) e) (hf.after hs) ⟨hB, h1⟩) ⟨rfl, rng64 (by omega)⟩)⟩
end
def RetI (B : Nat) (w0 : World) (e : TypeId) (l : List Int) : Value → World → Prop := fun v w => (∃ b, v = .slice (some ⟨b, 0, none⟩) l.length l.length ∧ B ≤ b ∧ w.heap[b]? = some (.cells (l.map (Value.int .i64)).toArray e (0, 0)) ∧ ∀ n ∈ l, I64 n) ∧ Below w0.heap.size w0 w
structure FnI (P : Program) (g : FuncId) (Ps : List Pub) (e : TypeId) (l : List Int) : Prop where
  ent : Ent P g
  run : ∀ M w vs, MB M w → Lays M w → FitL M w Ps vs → CallsV P g vs w (RetI w.heap.size w e l)
theorem fnI_of {P : Program} {f : FuncId} {N : Nat} {fn : Func} {c : Code} {Ps : List Pub} {e : TypeId} {l : List Int} (he : Ent P f) (hf : P.funcs[f]? = some fn) (hb : fn.body = some c) (hN : fn.ntmps = N) (hn : Nat.ble Ps.length N = true)
    (h : ∀ M0 w0, Rt P f N M0 w0 [.code c] (argTF 0 Ps) (RetI w0.heap.size w0 e l)) : FnI P f Ps e l := ⟨he, fun M w vs hm hl0 hv => by
  have hlen := hv.len
  exact callsV_of_run hf hb hN (by rw [hlen]; exact Nat.le_of_ble_eq_true hn) ((h M w).out (Rn.refl hm) (fit_args hl0 0 hv))⟩
theorem c_retI {P : Program} {k : List Item} {f : FuncId} {N : Nat} {M0 : Mut} {w0 : World} {G : TF} {fn : Func} {t : Nat} {b tag n : Nat} {l l' : List Int} {e : TypeId} (key : Nat) (hf : P.funcs[f]? = some fn) (hr : fn.results = #[.tmp t]) (hl : l' = l) (hn : n = l.length)
    (hp : topP G (.tmp t) = some (pSr b n) := by rfl) (hg : tlook G key = some (.rw b tag eI l' e) := by rfl) : Rt P f N M0 w0 (.code .ret :: k) G (RetI w0.heap.size w0 e l) := ⟨fun {M w fr} hrn hfit => by
  subst hl hn
  obtain ⟨v, h1, rfl⟩ := hfit.op0 hp (fun _ _ => trivial)
  obtain ⟨hB, css, h2, h3⟩ := hfit.out key _ hg (.inr trivial)
  obtain ⟨rfl, hI⟩ := cssI.1 h2
  exact run_ret1 hf hr h1 ⟨⟨b, rfl, hB, h3.heap, hI⟩, hrn.bel⟩⟩
theorem t_callI {P : Program} {N : Nat} {G : TF} {d : Option Tmp} {ty : TypeId} {pos : String} {aft : Array Edge} {g : Option (Nat × Bool)} {f : FuncId} {args : List Operand} {argT : Array TypeId} {Ps : List Pub} {e : TypeId} {l : List Int} (tag : Nat) (h : FnI P f Ps e l) (ha : topPs G args = some Ps := by rfl) :
    TOp P N ⟨d, .call ⟨.value (.func f), args.toArray, argT⟩, ty, pos, aft, g⟩ G [] (.ow eI l tag e) := ⟨args, (by simp [Op.operands, Call.operands]; intro x hx; exact .inr hx), fun {M0 w0 M w fr} hr hf => by
  obtain ⟨vs, h1, h2⟩ := hf.ops ha (fun _ h => h)
  refine op_call h.ent h1 (h.run M w vs hr.mb hf.lay h2) fun v w' ⟨⟨b, e1, e2, e3, e4⟩, hb⟩ => ?_
  have hup : UpM M w (M.set b (some (0, tag))) w' := ⟨hb, fun c hc => by unfold Mut.set; rw [if_neg (by omega)], fun hm c hc => by
    have := (Array.getElem?_eq_some_iff.1 e3).1
    unfold Mut.set
    rw [if_neg (by omega)]
    exact hm c (Nat.le_trans hb.size hc)⟩
  exact ⟨_, StW.up hr.size hup, b, e1, Nat.le_trans hr.size e2, _, cssI.2 ⟨rfl, e4⟩, e3, by simp [Mut.set]⟩⟩
theorem take_rep {x : Int} {l : List Int} {off n : Nat} (hl : l.length = n) (_ho : 1 ≤ off) (hof : off < n) (h : l.take off = List.replicate off x) :
    (over l off (l.take (min (n - off) off))).take (off + min (n - off) off) = List.replicate (off + min (n - off) off) x ∧ (over l off (l.take (min (n - off) off))).length = n := by
  have h1 : l.take (min (n - off) off) = List.replicate (min (n - off) off) x := by
    rw [show min (n - off) off = min (min (n - off) off) off by omega, ← List.take_take, h, List.take_replicate]
  have hlen : (over l off (l.take (min (n - off) off))).length = n := by
    rw [over_len (by rw [List.length_take]; omega), hl]
  refine ⟨?_, hlen⟩
  unfold over
  rw [h1, h, List.take_append_of_le_length (by simp), List.replicate_append_replicate, List.take_of_length_le (by simp)]
set_option maxHeartbeats 1000000 in
theorem repeat_f {x : Int} {k : Int} (h : 1 ≤ k ∧ k ≤ 1000000) : FnI Tryd.prog 64 [pSl eI [x], pI k] 3 (List.replicate k.toNat x) := by
  refine fnI_of ent64 Tryd.func64 rfl Tryd.ntmps64 rfl fun M0 w0 => ?_
  have hkn : k.toNat = k := by omega
  (repeat (first | refine c_seq ?_ | refine c_reg ?_ | refine c_rnil ?_ | refine c_skip ?_ | refine c_false ?_ | refine c_yes ?_ | refine (c_make 1 100) ?_ | refine c_op (by first | exact t_call (h := (mul_f (k := k) (by omega))) | exact (t_cvU (h := (by first | omega | (simp; done)))) | exact (t_cvI) | exact (t_gtrF) | exact t_move | exact t_assign | exact t_pickF | exact t_lssF | exact t_ext0 | exact t_ext1 | exact t_len | fail) ?_ | fail))
  intro b
  have hll : (over (List.replicate k.toNat (0 : Int)) 0 [x]).length = k.toNat := by rw [over_len (by simp; omega), List.length_replicate]
  have hl1 : (over (List.replicate k.toNat (0 : Int)) 0 [x]).take 1 = List.replicate 1 x := by simp [over]
  (repeat (first | refine c_seq ?_ | refine c_reg ?_ | refine c_rnil ?_ | refine c_block ?_ | refine (c_copy 100 (hn := (by simp; omega)) (hl := (by simp; omega))) ?_ | refine c_op (by first | exact t_move | exact t_assign | fail) ?_ | fail))
  refine c_loop (fun y : List Int × Nat => [(0, .pu (pSl eI [x])), (7, .pu (pSr b k.toNat)), (100, .rw b 1 eI y.1 3), (8, .pu (pI y.2))])
    (fun y => y.1.length = k.toNat ∧ 1 ≤ y.2 ∧ y.2 ≤ k.toNat ∧ y.1.take y.2 = List.replicate y.2 x) (fun y => k.toNat - y.2) (over (List.replicate k.toNat (0 : Int)) 0 [x], 1) ⟨hll, Nat.le_refl _, by dsimp only; omega, hl1⟩ (by repeat (first | exact trivial | refine ⟨has_rfl rfl, ?_⟩ | fail)) ?_
  rintro ⟨l, off⟩ ⟨hl, ho, hok, ht⟩ ih
  dsimp only at hl ho hok ht ih ⊢
  by_cases hlt : off < k.toNat
  · obtain ⟨q1, q2⟩ := take_rep hl ho hlt ht
    (repeat (first | refine c_seq ?_ | refine c_reg ?_ | refine c_rnil ?_ | refine c_block ?_ | refine c_skip ?_ | refine c_true ?_ | refine c_op (by first | exact t_move | exact t_lssT | exact t_lenR | fail) ?_ | fail))
    refine c_draw {} 7 3 [0] [] mixed (by kernel_rfl) rfl rfl ?_
    (repeat (first | refine d_op (by first | exact (t_sliceRL) | exact (t_sliceRH) | exact t_move | fail) ?_ | fail))
    refine d_nil ?_
    refine q_copy 100 (i := 7) (by kernel_rfl) rfl ?_ (hn := hl) (hof := by omega) (hnn := by omega)
    refine q_op 8 (by kernel_rfl) rfl t_add ?_
    refine q_op 9 (by kernel_rfl) rfl t_assign ?_
    refine q_nil ?_ (by kernel_rfl)
    (repeat (first | refine c_inBlock ?_ | fail))
    exact (ih (over l off (l.take (min (k.toNat - off) off)), off + min (k.toNat - off) off) ⟨q2, by dsimp only; omega, by dsimp only; omega, q1⟩ (by dsimp only; omega)).sub (by repeat (first | exact trivial | refine ⟨has_rfl rfl, ?_⟩ | fail))
  · have : off = k.toNat := by omega
    subst this
    rw [← hl, List.take_length, hl] at ht
    (repeat (first | refine c_seq ?_ | refine c_reg ?_ | refine c_rnil ?_ | refine c_exit ?_ | refine c_false ?_ | refine c_op (by first | exact t_move | exact t_assign | exact t_lssF | exact t_lenR | fail) ?_ | fail))
    refine c_retI 100 Tryd.func64 rfl ht ?_
    simp
end Go.Proofs.YtocoinkhbjlbhaaDoor
end

section
namespace Go.Proofs.YtocoinkhbjlbhaaDoor
open Go Go.RowKit
def gapV (w : List Int) (m : Int) (i : Nat) : Int := 6 + (slk m w).tdiv (w.length - 1) + (if (i : Int) < (slk m w).tmod (w.length - 1) then 1 else 0)
def gapsM (w : List Int) (m : Int) (last : Bool) : List Int := (List.range (w.length - 1)).map fun i => if last then 6 else gapV w m i
theorem gapsM_len {w : List Int} {m : Int} {last : Bool} : (gapsM w m last).length = w.length - 1 := by simp [gapsM]
theorem gapsM_get {w : List Int} {m : Int} {last : Bool} {i : Nat} (h : i < (gapsM w m last).length) : (gapsM w m last)[i] = if last then 6 else gapV w m i := by simp [gapsM]
theorem repeatK_f {x k : Int} {K : Nat} (h : 1 ≤ k ∧ k ≤ 1000000) (hk : k = K) : FnI Tryd.prog 64 [pSl eI [x], pI k] 3 (List.replicate K x) := by
  have := repeat_f (x := x) h
  subst hk
  rwa [Int.toNat_natCast] at this
theorem gapsM_last {w : List Int} {m : Int} : gapsM w m true = List.replicate (w.length - 1) 6 := by
  unfold gapsM
  apply List.ext_getElem
  · simp
  · intro i h1 h2
    simp
set_option maxHeartbeats 1000000 in
theorem gaps_f {w : List Int} {m : Int} {last : Bool} (hm : 0 ≤ m ∧ m ≤ 2000) (hl : w.length ≤ 500) (hw : ∀ x ∈ w, 1 ≤ x ∧ x ≤ 480) :
    Fn Tryd.prog 38 [pSl eI w, pI m, pB last] (pSl eI (gapsM w m last)) := by
  refine fn_of ent38 Tryd.func38 rfl Tryd.ntmps38 rfl fun M0 w0 => ?_
  by_cases hk : w.length ≤ 1
  · have e : gapsM w m last = [] := by
      apply List.eq_nil_of_length_eq_zero
      rw [gapsM_len]
      omega
    rw [e]
    (repeat (first | refine c_seq ?_ | refine c_reg ?_ | refine c_rnil ?_ | refine c_true ?_ | refine c_op (by first | exact t_move | exact t_assign | exact t_sub | exact t_lssT | exact t_len | fail) ?_ | fail))
    refine c_ret1 Tryd.func38 rfl ?_
    intro M w' v h
    rw [show v = _ from h]
    exact SlOf.nil _ _ _
  obtain ⟨K, hK⟩ : ∃ K : Nat, w.length = K + 1 := ⟨w.length - 1, by omega⟩
  have hbd := slk_bd (m := m) hl hw
  (repeat (first | refine c_seq ?_ | refine c_reg ?_ | refine c_rnil ?_ | refine c_skip ?_ | refine c_false ?_ | refine c_op (by first | exact (t_bsI [6]) | exact (t_callI 2 (repeatK_f (K := K) (k := (w.length : Int) - 1) (by omega) (by omega))) | exact t_move | exact t_assignO | exact t_assign | exact t_sub | exact t_lssF | exact t_len | fail) ?_ | fail))
  refine c_row 8 100 fun b => ?_
  rw [List.length_replicate]
  refine c_ifb (fun hb => ?_) fun hb => ?_
  · subst hb
    rw [gapsM_last, show w.length - 1 = K by omega]
    refine c_frz 8 100 ?_
    (repeat (first | refine c_seq ?_ | refine c_reg ?_ | refine c_rnil ?_ | refine c_op (by first | exact t_move | exact t_assign | fail) ?_ | fail))
    refine c_ret1 Tryd.func38 rfl ?_
    exact fun h => h
  subst hb
  have hkI : (w.length : Int) - 1 = K := by omega
  have ht1 := tmod_rng (m := slk m w) (n := (w.length : Int) - 1) (by omega)
  have ht2 := tdiv_rng (m := slk m w) (n := (w.length : Int) - 1) (by unfold I64; omega) (by omega)
  have ht3 := Int.natAbs_tdiv_le_natAbs (slk m w) ((w.length : Int) - 1)
  (repeat (first | refine c_seq ?_ | refine c_reg ?_ | refine c_rnil ?_ | refine c_block ?_ | refine c_skip ?_ | refine c_op (by first | exact t_call (h := (slack_f hm hl hw)) | exact t_move | exact t_assign | exact t_lenR | fail) ?_ | fail))
  refine c_loop (fun x : List Int × Nat => [(0, .pu (pSl eI w)), (7, .pu (pI ((w.length : Int) - 1))), (8, .pu (pSr b K)), (100, .rw b 2 eI x.1 3), (9, .pu (pI (slk m w))), (25, .pu (pI K)), (26, .pu (pI x.2))])
    (fun x => x.1.length = K ∧ x.2 ≤ K ∧ (∀ j, j < x.2 → x.1[j]? = some (gapV w m j)) ∧ ∀ j, x.2 ≤ j → j < K → x.1[j]? = some 6) (fun x => K - x.2) (List.replicate K 6, 0) ⟨by simp, by omega, fun j hj => by dsimp only at hj; omega, fun j h1 h2 => by dsimp only; rw [List.getElem?_replicate, if_pos h2]⟩ (by repeat (first | exact trivial | refine ⟨has_rfl rfl, ?_⟩ | fail)) ?_
  rintro ⟨l, i⟩ ⟨hll, hi, hl1, hl2⟩ ih
  dsimp only at hll hi hl1 hl2 ih ⊢
  by_cases hlt : i < K
  · have hv := hl2 i (Nat.le_refl _) hlt
    (repeat (first | refine c_seq ?_ | refine c_reg ?_ | refine c_rnil ?_ | refine c_block ?_ | refine c_skip ?_ | refine c_true ?_ | refine c_op (by first | exact t_move | exact t_assign | exact t_lssT | fail) ?_ | fail))
    refine c_draw {} 9 1 [] [] mixed (by kernel_rfl) rfl rfl ?_
    (repeat (first | refine d_op (by first | exact (t_idxRN 100) | exact (t_loadRE 100 (hv := hv)) | exact t_move | exact t_add | exact t_quo | fail) ?_ | fail))
    refine d_nil ?_
    refine q_st 9 100 (by kernel_rfl) rfl (t_st 100) ?_
    refine q_nil ?_ (by kernel_rfl)
    have hset : ∀ (v : Int), v = gapV w m i → ∀ l' : List Int, l'.length = K → (∀ j, j ≠ i → l'[j]? = l[j]?) → l'[i]? = some v → (l'.length = K ∧ i + 1 ≤ K ∧ (∀ j, j < i + 1 → l'[j]? = some (gapV w m j)) ∧ ∀ j, i + 1 ≤ j → j < K → l'[j]? = some 6) := fun v hv l' h1 h2 h3 => by
      refine ⟨h1, by omega, fun j hj => ?_, fun j h4 h5 => ?_⟩
      · rcases Nat.lt_or_ge j i with h | h
        · rw [h2 j (by omega), hl1 j h]
        · rw [show j = i by omega, h3, hv]
      · rw [h2 j (by omega), hl2 j (by omega) h5]
    (repeat (first | refine c_seq ?_ | refine c_reg ?_ | refine c_rnil ?_ | refine c_op (by first | exact t_move | exact t_lss | exact t_rem | fail) ?_ | fail))
    refine c_if (fun hr => ?_) fun hr => ?_
    · have hv2 : (l.set i (6 + (slk m w).tdiv ((w.length : Int) - 1)))[i]? = some (6 + (slk m w).tdiv ((w.length : Int) - 1)) := by rw [List.getElem?_set_self (by omega)]
      (repeat (first | refine c_reg ?_ | refine c_rnil ?_ | refine c_inBlock ?_ | refine (c_st 100 (t_st 100)) ?_ | refine c_op (by first | exact (t_idxRN 100 (h0 := by omega)) | exact (t_loadRE 100 (hv := hv2)) | exact t_move | exact t_add | fail) ?_ | fail))
      refine (ih ((l.set i (6 + (slk m w).tdiv ((w.length : Int) - 1))).set i (6 + (slk m w).tdiv ((w.length : Int) - 1) + 1), i + 1) (hset (6 + (slk m w).tdiv ((w.length : Int) - 1) + 1) ?_ _ ?_ ?_ ?_) (by dsimp only; omega)).sub (by repeat (first | exact trivial | refine ⟨has_rfl rfl, ?_⟩ | fail))
      · unfold gapV
        rw [if_pos hr]
      · rw [List.length_set, List.length_set, hll]
      · intro j hj
        rw [List.getElem?_set_ne (by omega), List.getElem?_set_ne (by omega)]
      · rw [List.getElem?_set_self (by rw [List.length_set]; omega)]
    · (repeat (first | refine c_reg ?_ | refine c_rnil ?_ | refine c_inBlock ?_ | refine c_skip ?_ | refine c_op (by first | exact t_move | exact t_add | fail) ?_ | fail))
      refine (ih (l.set i (6 + (slk m w).tdiv ((w.length : Int) - 1)), i + 1) (hset (6 + (slk m w).tdiv ((w.length : Int) - 1)) ?_ _ ?_ ?_ ?_) (by dsimp only; omega)).sub (by repeat (first | exact trivial | refine ⟨has_rfl rfl, ?_⟩ | fail))
      · unfold gapV
        rw [if_neg hr, Int.add_zero]
      · rw [List.length_set, hll]
      · intro j hj
        rw [List.getElem?_set_ne (by omega)]
      · rw [List.getElem?_set_self (by omega)]
  · have e : l = gapsM w m false := by
      apply List.ext_getElem?
      intro j
      rcases Nat.lt_or_ge j K with h | h
      · rw [hl1 j (by omega), List.getElem?_eq_getElem (by rw [gapsM_len]; omega), gapsM_get]
        rfl
      · rw [List.getElem?_eq_none (by omega), List.getElem?_eq_none (by rw [gapsM_len]; omega)]
    subst e
    refine c_frz 8 100 ?_ (hn := by rw [gapsM_len]; omega)
    (repeat (first | refine c_seq ?_ | refine c_reg ?_ | refine c_rnil ?_ | refine c_exit ?_ | refine c_false ?_ | refine c_op (by first | exact t_move | exact t_assign | exact t_lssF | fail) ?_ | fail))
    refine c_ret1 Tryd.func38 rfl ?_
    exact fun h => h
set_option maxHeartbeats 1000000 in
theorem gapsR_f {w : List Int} {m : Int} {last : Bool} (hm : 0 ≤ m ∧ m ≤ 2000) (hl : w.length ≤ 500) (hw : ∀ x ∈ w, 1 ≤ x ∧ x ≤ 480) :
    Fn Tryd.prog 61 [pSl eI w, pI m, pB last] (pSl eI (gapsM w m last)) := by
  refine fn_of ent61 Tryd.func61 rfl Tryd.ntmps61 rfl fun M0 w0 => ?_
  have hbd := slk_bd (m := m) hl hw
  (repeat (first | refine c_seq ?_ | refine c_reg ?_ | refine c_rnil ?_ | refine c_block ?_ | refine c_op (by first | exact t_call (h := (slackR_f hm hl hw)) | exact t_move | exact t_assign | exact t_sub | exact t_len | fail) ?_ | fail))
  refine c_loop (fun i : Nat => [(2, .pu (pB last)), (7, .gr eI ((gapsM w m last).take i) 1 3), (8, .pu (pI ((w.length : Int) - 1))), (9, .pu (pI (slk m w))), (10, .pu (pI i))]) (fun i => i ≤ w.length - 1) (fun i => w.length - i) 0 (by omega) (by repeat (first | exact trivial | refine ⟨has_rfl rfl, ?_⟩ | refine ⟨has_nil rfl, ?_⟩ | fail)) fun i hi ih => ?_
  by_cases hlt : (i : Int) < (w.length : Int) - 1
  · have hig : i < (gapsM w m last).length := by rw [gapsM_len]; omega
    have hst : (gapsM w m last).take (i + 1) = (gapsM w m last).take i ++ [if last then 6 else gapV w m i] := by rw [List.take_succ_eq_append_getElem hig, gapsM_get]
    have ht1 := tmod_rng (m := slk m w) (n := (w.length : Int) - 1) (by omega)
    have ht3 := Int.natAbs_tdiv_le_natAbs (slk m w) ((w.length : Int) - 1)
    cases last
    · by_cases hr : (i : Int) < (slk m w).tmod ((w.length : Int) - 1)
      · (repeat (first | refine c_seq ?_ | refine c_reg ?_ | refine c_rnil ?_ | refine c_block ?_ | refine c_inBlock ?_ | refine c_skip ?_ | refine c_true ?_ | refine c_op (by first | exact t_moveG | exact t_move | exact t_assignG | exact t_assign | exact t_add | exact t_not | exact t_lssT | exact t_bs | exact t_quo | exact t_rem | fail) ?_ | refine c_opW t_app ?_ | fail))
        refine (ih (i + 1) (by omega) (by omega)).sub ?_
        (repeat' (first | exact trivial | refine ⟨?_, ?_⟩ | fail)) <;> (try first | exact has_rfl rfl | exact has_nil rfl | exact has_nilS rfl | exact has_gr rfl | exact has_int rfl (by first | omega | fail) | fail)
        refine has_grE rfl ?_
        rw [hst]
        unfold gapV
        rw [if_pos hr]
        rfl
      · (repeat (first | refine c_seq ?_ | refine c_reg ?_ | refine c_rnil ?_ | refine c_block ?_ | refine c_inBlock ?_ | refine c_skip ?_ | refine c_true ?_ | refine c_false ?_ | refine c_op (by first | exact t_moveG | exact t_move | exact t_assignG | exact t_assign | exact t_add | exact t_not | exact t_lssT | exact t_lssF | exact t_bs | exact t_quo | exact t_rem | fail) ?_ | refine c_opW t_app ?_ | fail))
        refine (ih (i + 1) (by omega) (by omega)).sub ?_
        (repeat' (first | exact trivial | refine ⟨?_, ?_⟩ | fail)) <;> (try first | exact has_rfl rfl | exact has_nil rfl | exact has_nilS rfl | exact has_gr rfl | exact has_int rfl (by first | omega | fail) | fail)
        refine has_grE rfl ?_
        rw [hst]
        unfold gapV
        rw [if_neg hr, Int.add_zero]
        rfl
    · (repeat (first | refine c_seq ?_ | refine c_reg ?_ | refine c_rnil ?_ | refine c_block ?_ | refine c_inBlock ?_ | refine c_skip ?_ | refine c_true ?_ | refine c_false ?_ | refine c_op (by first | exact t_moveG | exact t_move | exact t_assignG | exact t_assign | exact t_add | exact t_not | exact t_lssT | exact t_bs | fail) ?_ | refine c_opW t_app ?_ | fail))
      refine (ih (i + 1) (by omega) (by omega)).sub ?_
      (repeat' (first | exact trivial | refine ⟨?_, ?_⟩ | fail)) <;> (try first | exact has_rfl rfl | exact has_nil rfl | exact has_nilS rfl | exact has_gr rfl | exact has_int rfl (by first | omega | fail) | fail)
      refine has_grE rfl ?_
      rw [hst]
      rfl
  · (repeat (first | refine c_seq ?_ | refine c_reg ?_ | refine c_rnil ?_ | refine c_exit ?_ | refine c_false ?_ | refine c_op (by first | exact t_moveG | exact t_move | exact t_assignG | exact t_lssF | fail) ?_ | fail))
    refine c_ret1 Tryd.func61 rfl ?_
    rw [List.take_of_length_le (by rw [gapsM_len]; omega)]
    exact fun h => h
end Go.Proofs.YtocoinkhbjlbhaaDoor
end

section
namespace Go.Proofs.YtocoinkhbjlbhaaDoor
open Go Go.RowKit
theorem ends_v {w r : List Int} {m : Int} (h : chk26 w m = 0) (h2 : endsM w m = r) : Fn Tryd.prog 36 [pSl eI w, pI m] (pT2 (pSl eI r) (pI 0)) := by
  have := ends_f (w := w) (m := m)
  rwa [if_pos h, h, h2] at this
end Go.Proofs.YtocoinkhbjlbhaaDoor
end

section
namespace Go.Proofs.YtocoinkhbjlbhaaDoor
theorem chk_of {w : List Int} {m : Int} (hl : w.length ≤ 500) (hm : 500 ≤ m ∧ m ≤ 2000) (hw : ∀ x ∈ w, 1 ≤ x ∧ x ≤ 480) : chk26 w m = 0 := by
  unfold chk26
  rw [if_neg (by omega), if_neg (by omega), if_pos (okW_of hw)]
end Go.Proofs.YtocoinkhbjlbhaaDoor
end

section
namespace Go.Proofs.YtocoinkhbjlbhaaDoor
open Go Go.RowKit
def segW (ws : List Wd) (a b : Int) : List Wd := (ws.drop a.toNat).take (b.toNat - a.toNat)
def notesW (l : List Wd) : List Int := (l.filter fun w => decide (w.note ≠ 0)).map fun w => w.note - 1
def widsW (ws : List Wd) : List Int := ws.map fun w => widM w.s
def lnGo (ws : List Wd) (first m : Int) : Int → List Int → List Line
  | _, [] => []
  | a, e :: r => ⟨first + a, first + e, gapsM (seg (widsW ws) a e) m (decide (r = [])), notesW (segW ws a e)⟩ :: lnGo ws first m e r
def lnsM (ws : List Wd) (first m : Int) : List Line := lnGo ws first m 0 (endsM (widsW ws) m)
structure OKR (ws : List Wd) : Prop where
  len : ws.length ≤ 500
  wid : ∀ w ∈ ws, 1 ≤ widM w.s
  note : ∀ w ∈ ws, 0 ≤ w.note ∧ w.note ≤ 100
theorem widsW_len (ws : List Wd) : (widsW ws).length = ws.length := by simp [widsW]
theorem widsW_get (ws : List Wd) (i : Nat) (h : i < ws.length) : (widsW ws)[i]'(by rw [widsW_len]; exact h) = widM ws[i].s := by simp [widsW]
theorem OKR.ok {ws : List Wd} (h : OKR ws) : ∀ x ∈ widsW ws, 1 ≤ x ∧ x ≤ 480 := by
  intro x hx
  obtain ⟨w, hw, rfl⟩ := List.mem_map.1 hx
  exact ⟨h.wid w hw, (widM_rng w.s).2⟩
theorem OKR.chk {ws : List Wd} (h : OKR ws) {m : Int} (hm : 500 ≤ m ∧ m ≤ 2000) : chk26 (widsW ws) m = 0 := chk_of (by rw [widsW_len]; exact h.len) hm h.ok
theorem ends_ord {w : List Int} {m : Int} (hm : 500 ≤ m) (hw : ∀ x ∈ w, 1 ≤ x ∧ x ≤ 480) : ordE w.length 0 (endsM w m) = true :=
  (walk_cost m hm hw (w.length + 1) 0 (by omega) (by omega)).1
theorem ordE_cons {n a e : Int} {r : List Int} (h : ordE n a (e :: r) = true) : a < e ∧ e ≤ n ∧ ordE n e r = true := by
  simp only [ordE, Bool.and_eq_true, decide_eq_true_eq] at h
  exact ⟨h.1, (ordE_le h.2).1, h.2⟩
theorem ordE_nil {n a : Int} (h : ordE n a [] = true) : a = n := by simpa [ordE] using h
theorem notesW_append (a b : List Wd) : notesW (a ++ b) = notesW a ++ notesW b := by simp [notesW]
theorem notesW_one (w : Wd) : notesW [w] = if w.note ≠ 0 then [w.note - 1] else [] := by
  unfold notesW
  by_cases h : w.note = 0 <;> simp [h]
theorem segW_len {w : List Wd} {a b : Int} (h1 : 0 ≤ a) (h2 : a ≤ b) (h3 : b ≤ w.length) : (segW w a b).length = b.toNat - a.toNat := by
  unfold segW; rw [List.length_take, List.length_drop]; omega
theorem segW_mem {w : List Wd} {a b : Int} : ∀ x ∈ segW w a b, x ∈ w := fun x hx => List.mem_of_mem_drop (List.mem_of_mem_take hx)
theorem segW_succ {w : List Wd} {a k : Nat} (h1 : a ≤ k) (h2 : k < w.length) : segW w a ((k + 1 : Nat) : Int) = segW w a k ++ [w[k]] := by
  unfold segW
  rw [Int.toNat_natCast, Int.toNat_natCast, Int.toNat_natCast, show k + 1 - a = (k - a) + 1 by omega, List.take_succ_eq_append_getElem (by rw [List.length_drop]; omega), List.getElem_drop]
  congr 2
  congr 1
  omega
def bodyGo (m : Int) : Int → List (List Wd) → List Line
  | _, [] => []
  | first, p :: r => lnsM p first m ++ bodyGo m (first + p.length) r
def notesGo (m : Int) : Int → List (List Wd) → List (List Line)
  | _, [] => []
  | first, p :: r => lnsM p first m :: notesGo m (first + p.length) r
def wordsN (l : List (List Wd)) : Nat := (l.map List.length).sum
end Go.Proofs.YtocoinkhbjlbhaaDoor
end

section
namespace Go.Proofs.YtocoinkhbjlbhaaDoor
open Go Go.RowKit
def pLn0 (a e : Int) (gaps : List Int) : Pub := ⟨fun M w v => ∃ gv, v = .agg #[.int .i64 a, .int .i64 e, gv, .slice none 0 0] ∧ I64 a ∧ I64 e ∧ SlOf eI M w gv gaps, fun hx ⟨gv, h1, h2, h3, h4⟩ => ⟨gv, h1, h2, h3, h4.mono hx⟩⟩
def slG (v : Value) (l : List Int) : Gh where
  tags := []
  p := fun _ M w _ => SlOf eI M w v l
  mono := fun h hs _ => h.mono hs.x
section
variable {P : Program} {N : Nat} {G : TF} {d : Option Tmp} {ty : TypeId} {pos : String} {aft : Array Edge} {g : Option (Nat × Bool)}
theorem t_blLn {x y z : Operand} {a e : Int} {gaps : List Int} (hx : topP G x = some (pI a) := by rfl) (hy : topP G y = some (pI e) := by rfl) (hz : topP G z = some (pSl eI gaps) := by rfl) :
    TOp Tryd.prog N ⟨d, .build 42 #[(0, x), (1, y), (2, z)], ty, pos, aft, g⟩ G [] (.pu (pLn0 a e gaps)) := .pure [x, y, z] (by simp [Op.operands]) fun {B M w fr} hf => by
  obtain ⟨_, h0, rfl, r0⟩ := hf.op hx (by simp)
  obtain ⟨_, h1, rfl, r1⟩ := hf.op hy (by simp)
  obtain ⟨gv, h2, h3⟩ := hf.op hz (by simp)
  obtain ⟨ad, cap, e1, _⟩ := h3.ex
  exact op_build (parts := [(0, x), (1, y), (2, z)]) (vs := [.int .i64 a, .int .i64 e, gv]) (pl := [(0, [.int .i64 a]), (1, [.int .i64 e]), (2, [gv])]) sbL (by simp [opvs, h0, h1, h2])
    ⟨rfl, rfl, Nat.le_of_ble_eq_true rfl, rfl, rfl, Nat.le_of_ble_eq_true rfl, rfl, by rw [e1]; rfl, Nat.le_of_ble_eq_true rfl, trivial⟩ ⟨rfl, gv, rfl, r0.1 rfl, r1.1 rfl, h3⟩
theorem t_loadLn {x : Operand} {b tag tn : Nat} {gv nv : Value} {a e : Int} {gaps notes : List Int} {te en : TypeId} (key kg kn : Nat) (hx : topP G x = some (pCe b 0) := by rfl) (hg : tlook G key = some (.bx b tag [.int .i64 a, .int .i64 e, gv, nv] te) := by rfl)
    (hb : tlook G kg = some (.gh (slG gv gaps)) := by rfl) (hn : tlook G kn = some (.gv nv eI notes tn en) := by rfl) (ha : I64 a) (he : I64 e) :
    TOp Tryd.prog N ⟨d, .load 42 x, ty, pos, aft, g⟩ G [] (.pu (pV eLine ⟨a, e, gaps, notes⟩)) := .pure [x] (by simp [Op.operands]) fun {B M w fr} hf => by
  obtain ⟨_, k0, rfl⟩ := hf.op hx (by simp)
  obtain ⟨_, hbx⟩ := hf.out key _ hg (.inl rfl)
  have h1 := hf.out kg _ hb (.inl rfl)
  obtain ⟨h2, _⟩ := hf.out kn _ hn (.inl rfl)
  exact op_loadn tdL k0 hbx (Nat.le_refl _) ⟨rfl, _, eLine_R.2 ⟨gv, nv, rfl, ha, he, h1, h2⟩, rfl⟩
end
instance focLn3 : FOc Tryd.prog 42 3 3 := ⟨fdL3⟩
instance t1cSI : T1c Tryd.prog 22 := ⟨24, _, tdSI⟩
section
variable {f : FuncId} {N : Nat} {M0 : Mut} {w0 : World} {R : Value → World → Prop} {G : TF} {k : List Item}
variable {ops : Array Oper} {ty : TypeId} {pos : String} {aft : Array Edge} {rest : List Oper}
theorem stLn_run {M : Mut} {w : World} {fr : Fr} {x y : Operand} {b tag : Nat} {cs : List Value} {te : TypeId} {a e : Int} {gaps : List Int} {v : Value} {Ψ : Value → World → Prop} {dd : Option Tmp} {g : Option (Nat × Bool)} (hr : Rn M0 w0 M w) (hx : opv fr x = some (.pointer (some ⟨b, 0, none⟩)))
    (hy : opv fr y = some v) (hv : (pLn0 a e gaps).p M w v) (hB : w0.heap.size ≤ b) (hb : Box M w b tag cs te) (hl : cs.length = 4)
    (h : ∀ (ad : Option Addr) (n cap : Nat) (M' : Mut) (w' : World), StW w0.heap.size [tag] M w M' w' → Box M' w' b tag [.int .i64 a, .int .i64 e, .slice ad n cap, .slice none 0 0] te → SlOf eI M' w' (.slice ad n cap) gaps → I64 a → I64 e → Ψ undef w') :
    OP Tryd.prog N ⟨dd, .store 42 x y, ty, pos, aft, g⟩ fr w Ψ := by
  obtain ⟨gv, rfl, i1, i2, h1⟩ := hv
  obtain ⟨ad, cap, rfl, _⟩ := h1.ex
  refine op_store tdL hx hy (c := [.int .i64 a, .int .i64 e, .slice ad gaps.length cap, .slice none 0 0]) rfl (by simp [Value.oneCell']) rfl hr hB hb (by rw [hl]; exact Nat.le_refl _) fun w' hb' hst => ?_
  refine h ad gaps.length cap M w' (StW.st hst) ?_ (h1.mono hst.x) i1 i2
  have hsp : splice cs 0 [.int .i64 a, .int .i64 e, .slice ad gaps.length cap, .slice none 0 0] = [.int .i64 a, .int .i64 e, .slice ad gaps.length cap, .slice none 0 0] := by
    unfold splice
    rw [List.take_zero, List.nil_append, List.drop_of_length_le (by rw [hl]; exact Nat.le_refl _), List.append_nil]
  rw [hsp] at hb'
  exact hb'
theorem c_stLn {x y : Operand} {b tag : Nat} {cs : List Value} {te : TypeId} {a e : Int} {gaps : List Int} (key kg kn tn : Nat)
    (hk : ∀ (ad : Option Addr) (n cap : Nat), I64 a → I64 e → RLt Tryd.prog f N M0 w0 ops k R rest ((key, .bx b tag [.int .i64 a, .int .i64 e, .slice ad n cap, .slice none 0 0] te) :: (kg, .gh (slG (.slice ad n cap) gaps)) :: (kn, .gv (.slice none 0 0) eI [] tn 3) :: dropW [tag] G))
    (hx : topP G x = some (pCe b 0) := by rfl) (hg : tlook G key = some (.bx b tag cs te) := by rfl) (hy : topP G y = some (pLn0 a e gaps) := by rfl) (hl : cs.length = 4 := by rfl) :
    RLt Tryd.prog f N M0 w0 ops k R (⟨none, .store 42 x y, ty, pos, aft, none⟩ :: rest) G := ⟨fun {M w fr} hr hf => by
  obtain ⟨_, h1, rfl⟩ := hf.op0 hx (fun _ _ => trivial)
  obtain ⟨v, h2, h3⟩ := hf.op0 hy (fun _ _ => trivial)
  obtain ⟨hB, hb⟩ := hf.out key _ hg (.inr trivial)
  refine rl_step0 (stLn_run hr h1 h2 h3 hB hb hl fun ad n cap M' w' hs hb' hsl i1 i2 => ?_)
  exact (hk ad n cap i1 i2).out (hr.stw hs) (Fit.hide (T := .bx _ _ _ _) (Fit.hide (T := .gh (slG (.slice ad n cap) gaps)) (Fit.hide (T := .gv (.slice none 0 0) eI [] tn 3) (hf.after hs) ⟨SlOf.nil _ _ _, Grow.nil⟩) hsl) ⟨hB, hb'⟩)⟩
end
theorem row_set {w : List Int} {i n : Nat} (hn : w.length = n) (h : i < n) : (w.take i ++ List.replicate (n - i) 0).set i (w[i]'(by omega)) = w.take (i + 1) ++ List.replicate (n - (i + 1)) 0 := by
  have hl : (w.take i).length = i := by rw [List.length_take]; omega
  rw [List.set_append, if_neg (by omega), hl, Nat.sub_self, List.take_succ_eq_append_getElem (by omega), show n - i = (n - (i + 1)) + 1 by omega, List.replicate_succ, List.set_cons_zero, List.append_assoc]
  rfl
theorem row_end {w : List Int} {i n : Nat} (hn : w.length = n) (h : n ≤ i) : w.take i ++ List.replicate (n - i) 0 = w := by
  rw [List.take_of_length_le (by omega), show n - i = 0 by omega]; simp
end Go.Proofs.YtocoinkhbjlbhaaDoor
end

section
namespace Go.Proofs.YtocoinkhbjlbhaaDoor
open Go Go.RowKit
theorem ordEn_len {n : Int} : ∀ {l : List Int} {a : Int}, ordE n a l = true → (l.length : Int) ≤ n - a
  | [], a, h => by have := ordE_nil h; simp; omega
  | e :: r, a, h => by
    obtain ⟨h1, h2, h3⟩ := ordE_cons h
    have := ordEn_len h3
    simp only [List.length_cons]
    omega
theorem lrow_set {L : List Line} {i n : Nat} {z x : Line} (hL : L.length = i) (h : i < n) : (L ++ List.replicate (n - i) z).set i x = L ++ [x] ++ List.replicate (n - (i + 1)) z := by
  rw [List.set_append, if_neg (by omega), hL, Nat.sub_self, show n - i = (n - (i + 1)) + 1 by omega, List.replicate_succ, List.set_cons_zero, List.append_assoc]
  rfl
set_option maxHeartbeats 16000000 in
theorem setL_f {ws : List Wd} {first m : Int} (hm : 500 ≤ m ∧ m ≤ 2000) (hf : 0 ≤ first ∧ first ≤ 1000000) (h : OKR ws) : Fn Tryd.prog 32 [pSl eWord ws, pI first, pI m] (pSl eLine (lnsM ws first m)) := by
  have hl := h.len
  have hwl := widsW_len ws
  have hchk := h.chk hm
  refine fn_of ent32 Tryd.func32 rfl Tryd.ntmps32 rfl fun M0 w0 => ?_
  (repeat (first | refine c_seq ?_ | refine c_reg ?_ | refine c_rnil ?_ | refine (c_make 1 100) ?_ | refine c_op (by first | exact t_move | exact t_assign | exact t_len | fail) ?_ | fail))
  intro b
  (repeat (first | refine c_seq ?_ | refine c_reg ?_ | refine c_rnil ?_ | refine c_block ?_ | refine c_op (by first | exact t_move | exact t_assign | exact t_len | fail) ?_ | fail))
  refine c_loop (fun i : Nat => [(0, .pu (pSl eWord ws)), (1, .pu (pI first)), (2, .pu (pI m)), (7, .pu (pSr b ws.length)), (100, .rw b 1 eI ((widsW ws).take i ++ List.replicate (ws.length - i) 0) 3), (22, .pu (pSl eWord ws)), (23, .pu (pI ws.length)), (24, .pu (pI i))])
    (fun i => i ≤ ws.length) (fun i => ws.length - i) 0 (by omega) (by repeat (first | exact trivial | refine ⟨has_rfl rfl, ?_⟩ | fail)) fun i hi ih => ?_
  by_cases hlt : i < ws.length
  · have hset := row_set (w := widsW ws) hwl hlt
    rw [widsW_get ws i hlt] at hset
    (repeat (first | refine c_seq ?_ | refine c_reg ?_ | refine c_rnil ?_ | refine c_block ?_ | refine c_inBlock ?_ | refine c_skip ?_ | refine c_true ?_ | refine (c_st 100 (t_st 100 (hi := (by simp; omega)))) ?_ | refine c_op (by first | exact t_call (h := width25_f) | exact (t_idxR 100) | exact t_move | exact t_assign | exact t_add | exact t_lssT | exact t_idxN | exact t_load | exact t_fa | exact t_allocV | fail) ?_ | refine c_stV ?_ | fail))
    refine (ih (i + 1) (by omega) (by omega)).sub ?_
    rw [← hset]
    (repeat' (first | exact trivial | refine ⟨?_, ?_⟩ | fail)) <;> (try first | exact has_rfl rfl | exact has_nil rfl | exact has_nilS rfl | exact has_gr rfl | exact has_nilGo rfl | exact has_int rfl (by first | omega | fail) | fail)
  (repeat (first | refine c_seq ?_ | fail))
  refine c_reg ?_
  (repeat (first | refine c_seq ?_ | refine c_rnil ?_ | refine c_exit ?_ | refine c_false ?_ | refine c_op (by first | exact t_lssF | fail) ?_ | fail))
  refine c_frz 7 100 ?_ (hn := by simp; omega)
  refine c_to 7 (.pu (pSl eI (widsW ws))) ?_ ?_
  · exact has_sl rfl (row_end hwl (by omega))
  obtain ⟨E, hE⟩ : ∃ E, E = endsM (widsW ws) m := ⟨_, rfl⟩
  have hord : ordE ws.length 0 E = true := by rw [hE, ← hwl]; exact ends_ord hm.1 h.ok
  have hEl := ordEn_len hord
  have hgo : lnGo ws first m 0 E = lnsM ws first m := by rw [hE]; rfl
  (repeat (first | refine c_seq ?_ | refine c_reg ?_ | refine c_rnil ?_ | refine (c_make 2 101) ?_ | refine c_op (by first | exact t_call (h := (ends_v hchk hE.symm)) | exact t_move | exact t_assign | exact t_ext0 | exact t_ext1 | exact t_len | fail) ?_ | fail))
  intro b2
  (repeat (first | refine c_seq ?_ | refine c_reg ?_ | refine c_rnil ?_ | refine c_block ?_ | refine c_op (by first | exact t_move | exact t_assign | exact t_len | fail) ?_ | fail))
  refine c_loop (fun x : Nat × Int × List Line => [(0, .pu (pSl eWord ws)), (1, .pu (pI first)), (2, .pu (pI m)), (7, .pu (pSl eI (widsW ws))), (10, .pu (pSl eI E)), (12, .pu (pSr b2 E.length)), (101, .rw b2 2 eLine (x.2.2 ++ List.replicate (E.length - x.1) ⟨0, 0, [], []⟩) 42), (13, .pu (pI x.2.1)), (45, .pu (pSl eI E)), (46, .pu (pI E.length)), (47, .pu (pI x.1))])
    (fun x => x.1 ≤ E.length ∧ x.2.2.length = x.1 ∧ x.2.2 ++ lnGo ws first m x.2.1 (E.drop x.1) = lnsM ws first m ∧ ordE ws.length x.2.1 (E.drop x.1) = true ∧ 0 ≤ x.2.1) (fun x => E.length - x.1) (0, 0, []) ⟨by simp, rfl, hgo, hord, by simp⟩ (by repeat (first | exact trivial | refine ⟨has_rfl rfl, ?_⟩ | fail)) ?_
  rintro ⟨i, a, L⟩ ⟨hi, hLi, hLs, ho, ha⟩ ih
  dsimp only at hi hLi hLs ho ha ih ⊢
  by_cases hlt : i < E.length
  · have hdrop : E.drop i = E[i] :: E.drop (i + 1) := List.drop_eq_getElem_cons hlt
    rw [hdrop] at ho hLs
    obtain ⟨o1, o2, o3⟩ := ordE_cons ho
    obtain ⟨e, he⟩ : ∃ e, e = E[i] := ⟨_, rfl⟩
    rw [← he] at o1 o2 o3 hLs
    have hlast : decide (E.drop (i + 1) = []) = decide ((i : Int) = E.length - 1) := decide_eq_decide.2 (by rw [List.drop_eq_nil_iff]; omega)
    have hseg1 : (seg (widsW ws) a e).length ≤ 500 := by have := seg_len (w := widsW ws) (a := a) (b := e); omega
    have hseg2 : ∀ x ∈ seg (widsW ws) a e, 1 ≤ x ∧ x ≤ 480 := fun x hx => h.ok x (seg_mem x hx)
    have hsegl := segW_len (w := ws) ha (by omega) o2
    have hsegn : ∀ w ∈ segW ws a e, 0 ≤ w.note ∧ w.note ≤ 100 := fun w hw => h.note w (segW_mem w hw)
    have gf := gaps_f (m := m) (last := decide ((i : Int) = E.length - 1)) (by omega) hseg1 hseg2
    unfold seg at gf
    subst he
    (repeat (first | refine c_seq ?_ | refine c_reg ?_ | refine c_rnil ?_ | refine c_block ?_ | refine c_skip ?_ | refine c_true ?_ | refine (c_allocB 3 102 tdL) ?_ | refine c_op (by first | exact t_call (h := gf) | exact (t_sliceM) | exact (t_blLn) | exact t_move | exact t_assign | exact t_add | exact t_sub | exact t_lssT | exact t_eql | exact t_len | exact t_idxN | exact t_load | fail) ?_ | fail))
    intro b3
    refine c_stLn 102 103 104 4 fun ad n cap i1 i2 => ?_
    (repeat (first | refine c_seq ?_ | refine c_reg ?_ | refine c_rnil ?_ | refine c_block ?_ | refine c_op (by first | exact t_move | exact t_len | exact t_sliceLH | fail) ?_ | fail))
    refine c_loop (fun x : Nat × Value => [(0, .pu (pSl eWord ws)), (1, .pu (pI first)), (2, .pu (pI m)), (7, .pu (pSl eI (widsW ws))), (10, .pu (pSl eI E)), (12, .pu (pSr b2 E.length)), (101, .rw b2 2 eLine (L ++ List.replicate (E.length - i) ⟨0, 0, [], []⟩) 42), (13, .pu (pI a)), (14, .pu (pI i)), (15, .pu (pI E[i])),
        (16, .pu (pCe b3 0)), (102, .bx b3 3 [.int .i64 (first + a), .int .i64 (first + E[i]), .slice ad n cap, x.2] 42), (103, .gh (slG (.slice ad n cap) (gapsM (seg (widsW ws) a E[i]) m (decide ((i : Int) = E.length - 1))))), (104, .gv x.2 eI (notesW ((segW ws a E[i]).take x.1)) 4 3),
        (45, .pu (pSl eI E)), (46, .pu (pI E.length)), (47, .pu (pI i)), (74, .pu (pSl eWord (segW ws a E[i]))), (75, .pu (pI (segW ws a E[i]).length)), (76, .pu (pI x.1))])
      (fun x => x.1 ≤ (segW ws a E[i]).length) (fun x => (segW ws a E[i]).length - x.1) (0, .slice none 0 0) (by simp) (by repeat (first | exact trivial | refine ⟨has_rfl rfl, ?_⟩ | fail)) ?_
    rintro ⟨k, nv⟩ hk ih3
    dsimp only at hk ih3 ⊢
    by_cases hlk : k < (segW ws a E[i]).length
    · have hnt := hsegn _ (List.getElem_mem hlk)
      have htk : notesW ((segW ws a E[i]).take (k + 1)) = notesW ((segW ws a E[i]).take k) ++ if (segW ws a E[i])[k].note ≠ 0 then [(segW ws a E[i])[k].note - 1] else [] := by
        rw [List.take_succ_eq_append_getElem hlk, notesW_append, notesW_one]
      by_cases hno : (segW ws a E[i])[k].note = 0
      · rw [if_neg (fun hc => hc hno), List.append_nil] at htk
        (repeat (first | refine c_seq ?_ | refine c_reg ?_ | refine c_rnil ?_ | refine c_block ?_ | refine c_inBlock ?_ | refine c_skip ?_ | refine c_true ?_ | refine c_false ?_ | refine c_op (by first | exact t_move | exact t_add | exact t_lssT | exact t_neqF | exact t_idxN | exact t_load | exact t_fa | exact t_allocV | fail) ?_ | refine c_stV ?_ | fail))
        refine (ih3 (k + 1, nv) (by dsimp only; omega) (by dsimp only; omega)).sub ?_
        dsimp only
        rw [htk]
        (repeat' (first | exact trivial | refine ⟨?_, ?_⟩ | fail)) <;> (try first | exact has_rfl rfl | exact has_nil rfl | exact has_nilS rfl | exact has_gr rfl | exact has_nilGo rfl | exact has_int rfl (by first | omega | fail) | fail)
      · rw [if_pos hno] at htk
        have hnl : (notesW ((segW ws a E[i]).take k)).length ≤ 500 := by
          unfold notesW
          rw [List.length_map]
          refine Nat.le_trans (List.length_filter_le _ _) ?_
          rw [List.length_take]; omega
        (repeat (first | refine c_seq ?_ | refine c_reg ?_ | refine c_rnil ?_ | refine c_block ?_ | refine c_skip ?_ | refine c_true ?_ | refine (c_opW (t_appV 104)) ?_ | refine c_op (by first | exact (t_faB) | exact (t_loadB 102) | exact t_sub | exact t_lssT | exact t_neqT | exact t_idxN | exact t_load | exact t_fa | exact t_bs | exact t_allocV | fail) ?_ | refine c_stV ?_ | fail))
        refine r_name 89 104 fun nv2 => ?_
        refine c_st 102 (t_stV 102 104) ?_
        (repeat (first | refine c_reg ?_ | refine c_rnil ?_ | refine c_inBlock ?_ | refine c_op (by first | exact t_move | exact t_add | fail) ?_ | fail))
        refine (ih3 (k + 1, nv2) (by dsimp only; omega) (by dsimp only; omega)).sub ?_
        dsimp only
        rw [htk]
        (repeat' (first | exact trivial | refine ⟨?_, ?_⟩ | fail)) <;> (try first | exact has_rfl rfl | exact has_nil rfl | exact has_nilS rfl | exact has_gr rfl | exact has_nilGo rfl | exact has_int rfl (by first | omega | fail) | fail)
    · have htk : (segW ws a E[i]).take k = segW ws a E[i] := List.take_of_length_le (by omega)
      rw [htk]
      have hrow := lrow_set (L := L) (n := E.length) (z := ⟨0, 0, [], []⟩) (x := ⟨first + a, first + E[i], gapsM (seg (widsW ws) a E[i]) m (decide ((i : Int) = E.length - 1)), notesW (segW ws a E[i])⟩) hLi hlt
      (repeat (first | refine c_seq ?_ | refine c_reg ?_ | refine c_rnil ?_ | refine c_inBlock ?_ | refine c_exit ?_ | refine c_false ?_ | refine (c_st 101 (t_st 101 (hi := (by simp; omega)))) ?_ | refine c_op (by first | exact (t_loadLn 102 103 104 (ha := i1) (he := i2)) | exact (t_idxR 101) | exact t_move | exact t_assign | exact t_add | exact t_lssF | fail) ?_ | fail))
      refine (ih (i + 1, E[i], L ++ [⟨first + a, first + E[i], gapsM (seg (widsW ws) a E[i]) m (decide ((i : Int) = E.length - 1)), notesW (segW ws a E[i])⟩]) ⟨by dsimp only; omega, by dsimp only; simp [hLi], ?_, o3, by dsimp only; omega⟩ (by dsimp only; omega)).sub ?_
      · dsimp only
        rw [← hLs]
        simp only [lnGo, List.append_assoc, List.cons_append, List.nil_append, hlast]
      · dsimp only
        rw [← hrow]
        (repeat' (first | exact trivial | refine ⟨?_, ?_⟩ | fail)) <;> (try first | exact has_rfl rfl | exact has_nil rfl | exact has_nilS rfl | exact has_gr rfl | exact has_nilGo rfl | exact has_int rfl (by first | omega | fail) | fail)
  · have hd : E.drop i = [] := List.drop_of_length_le (by omega)
    rw [hd] at hLs
    simp only [lnGo, List.append_nil] at hLs
    (repeat (first | refine c_seq ?_ | fail))
    refine c_reg ?_
    (repeat (first | refine c_seq ?_ | refine c_rnil ?_ | refine c_exit ?_ | refine c_false ?_ | refine c_op (by first | exact t_lssF | fail) ?_ | fail))
    refine c_frz 12 101 ?_ (hn := by simp; omega)
    refine c_to 12 (.pu (pSl eLine (lnsM ws first m))) ?_ ?_
    · exact has_sl rfl (by rw [show E.length - i = 0 by omega, ← hLs]; simp)
    (repeat (first | refine c_reg ?_ | refine c_rnil ?_ | refine c_op (by first | exact t_move | exact t_assign | fail) ?_ | fail))
    refine c_ret1 Tryd.func32 rfl ?_
    exact fun h => h
end Go.Proofs.YtocoinkhbjlbhaaDoor
end

section
namespace Go.Proofs.YtocoinkhbjlbhaaDoor
open Go Go.RowKit
theorem q_stLnV {f : FuncId} {N : Nat} {M0 : Mut} {w0 : World} {R : Value → World → Prop} {G : TF} {k : List Item} {ops : Array Oper} {n s : Nat} {listed : Array Bool} {ty : TypeId} {pos : String} {aft : Array Edge} {y : Operand} {tag : Nat} {te : TypeId} {a e : Int} {gaps : List Int} (i key kg kn tn : Nat)
    (hr : Region.ready .any ops listed = [i]) (ho : ops[i]? = some ⟨none, .store 42 (.tmp s) y, ty, pos, aft, none⟩)
    (hk : ∀ (b : Nat) (ad : Option Addr) (len cap : Nat), I64 a → I64 e → RTt Tryd.prog f N M0 w0 ops k R n (listed.setIfInBounds i true) ((s, .pu (pCe b 0)) :: (key, .bx b tag [.int .i64 a, .int .i64 e, .slice ad len cap, .slice none 0 0] te) :: (kg, .gh (slG (.slice ad len cap) gaps)) :: (kn, .gv (.slice none 0 0) eI [] tn 3) :: dropW [tag] G))
    (hx : tlook G s = some (.go (varG eLine tag te)) := by rfl) (hy : topP G y = some (pLn0 a e gaps) := by rfl) :
    RTt Tryd.prog f N M0 w0 ops k R (n + 1) listed G := ⟨fun {M w fr} hrn hf => by
  obtain ⟨v, h1, b, cs, rfl, hB, hl, hb⟩ := hf.out s _ hx (.inr trivial)
  obtain ⟨u, h2, h3⟩ := hf.op0 hy (fun _ _ => trivial)
  refine rt_one0 hr ho (stLn_run hrn h1 h2 h3 hB hb hl fun ad len cap M' w' hs hb' hsl i1 i2 => ?_)
  exact (hk b ad len cap i1 i2).out (hrn.stw hs) (Fit.hide (T := .pu (pCe b 0)) (Fit.hide (T := .bx _ _ _ _) (Fit.hide (T := .gh (slG (.slice ad len cap) gaps)) (Fit.hide (T := .gv (.slice none 0 0) eI [] tn 3) (hf.after hs) ⟨SlOf.nil _ _ _, Grow.nil⟩) hsl) ⟨hB, hb'⟩) ⟨_, h1, rfl⟩)⟩
theorem endsR_v {w r : List Int} {m : Int} (h : chk26 w m = 0) (h2 : endsM w m = r) : Fn Tryd.prog 60 [pSl eI w, pI m] (pT2 (pSl eI r) (pI 0)) := by
  have := endsR_f (w := w) (m := m)
  rwa [if_pos h, h, h2] at this
set_option maxHeartbeats 16000000 in
theorem linesR_f {ws : List Wd} {first m : Int} (hm : 500 ≤ m ∧ m ≤ 2000) (hf : 0 ≤ first ∧ first ≤ 1000000) (h : OKR ws) : Fn Tryd.prog 34 [pSl eWord ws, pI first, pI m] (pSl eLine (lnsM ws first m)) := by
  have hl := h.len
  have hwl := widsW_len ws
  have hchk := h.chk hm
  refine fn_of ent34 Tryd.func34 rfl Tryd.ntmps34 rfl fun M0 w0 => ?_
  (repeat (first | refine c_seq ?_ | refine c_reg ?_ | refine c_rnil ?_ | refine c_block ?_ | refine c_op (by first | exact t_assign | fail) ?_ | fail))
  refine c_loop (fun i : Nat => [(0, .pu (pSl eWord ws)), (1, .pu (pI first)), (2, .pu (pI m)), (7, .gr eI ((widsW ws).take i) 1 3), (8, .pu (pI i))])
    (fun i => i ≤ ws.length) (fun i => ws.length - i) 0 (by omega) (by repeat (first | exact trivial | refine ⟨has_rfl rfl, ?_⟩ | refine ⟨has_nil rfl, ?_⟩ | fail)) fun i hi ih => ?_
  have htl : ((widsW ws).take i).length = i := by rw [List.length_take]; omega
  by_cases hlt : i < ws.length
  · have hset : (widsW ws).take (i + 1) = (widsW ws).take i ++ [widM ws[i].s] := by
      rw [List.take_succ_eq_append_getElem (by omega), widsW_get ws i hlt]
    (repeat (first | refine c_seq ?_ | refine c_reg ?_ | refine c_rnil ?_ | refine c_block ?_ | refine c_inBlock ?_ | refine c_skip ?_ | refine c_true ?_ | refine c_op (by first | exact t_call (h := widthR_f) | exact t_moveG | exact t_move | exact t_assignG | exact t_assign | exact t_add | exact t_lssT | exact t_len | exact t_idxN | exact t_load | exact t_fa | exact t_bs | fail) ?_ | refine c_opW t_app ?_ | fail))
    refine (ih (i + 1) (by omega) (by omega)).sub ?_
    rw [hset]
    (repeat' (first | exact trivial | refine ⟨?_, ?_⟩ | fail)) <;> (try first | exact has_rfl rfl | exact has_nil rfl | exact has_nilS rfl | exact has_gr rfl | exact has_nilGo rfl | exact has_int rfl (by first | omega | fail) | fail)
  (repeat (first | refine c_seq ?_ | fail))
  refine c_reg ?_
  (repeat (first | refine c_seq ?_ | refine c_rnil ?_ | refine c_exit ?_ | refine c_false ?_ | refine c_op (by first | exact t_move | exact t_lssF | exact t_len | fail) ?_ | fail))
  refine c_to 7 (.gr eI (widsW ws) 1 3) ?_ ?_
  · exact has_grE rfl (List.take_of_length_le (by omega))
  obtain ⟨E, hE⟩ : ∃ E, E = endsM (widsW ws) m := ⟨_, rfl⟩
  have hord : ordE ws.length 0 E = true := by rw [hE, ← hwl]; exact ends_ord hm.1 h.ok
  have hEl := ordEn_len hord
  have hgo : lnGo ws first m 0 E = lnsM ws first m := by rw [hE]; rfl
  (repeat (first | refine c_seq ?_ | refine c_reg ?_ | refine c_rnil ?_ | refine c_block ?_ | refine c_op (by first | exact t_call (h := (endsR_v hchk hE.symm)) | exact t_moveG | exact t_move | exact t_assign | exact t_ext0 | exact t_ext1 | fail) ?_ | fail))
  refine c_loop (fun x : Nat × Nat × List Line => [(0, .pu (pSl eWord ws)), (1, .pu (pI first)), (2, .pu (pI m)), (7, .pu (pSl eI (widsW ws))), (9, .pu (pSl eI E)), (11, .gr eLine x.2.2 5 42), (12, .pu (pI x.2.1)), (13, .pu (pI x.1))])
    (fun x => x.1 ≤ E.length ∧ x.2.2.length = x.1 ∧ x.2.2 ++ lnGo ws first m x.2.1 (E.drop x.1) = lnsM ws first m ∧ ordE ws.length x.2.1 (E.drop x.1) = true) (fun x => E.length - x.1) (0, 0, []) ⟨by simp, rfl, hgo, hord⟩ (by repeat (first | exact trivial | refine ⟨has_rfl rfl, ?_⟩ | refine ⟨has_nil rfl, ?_⟩ | refine ⟨has_gr rfl, ?_⟩ | fail)) ?_
  rintro ⟨i, a, L⟩ ⟨hi, hLi, hLs, ho⟩ ih
  dsimp only at hi hLi hLs ho ih ⊢
  by_cases hlt : i < E.length
  · have hdrop : E.drop i = E[i] :: E.drop (i + 1) := List.drop_eq_getElem_cons hlt
    rw [hdrop] at ho hLs
    obtain ⟨o1, o2, o3⟩ := ordE_cons ho
    have hlast : decide (E.drop (i + 1) = []) = decide ((i : Int) = E.length - 1) := decide_eq_decide.2 (by rw [List.drop_eq_nil_iff]; omega)
    have hseg1 : (seg (widsW ws) a E[i]).length ≤ 500 := by have := seg_len (w := widsW ws) (a := a) (b := E[i]); omega
    have hseg2 : ∀ x ∈ seg (widsW ws) a E[i], 1 ≤ x ∧ x ≤ 480 := fun x hx => h.ok x (seg_mem x hx)
    have gf := gapsR_f (m := m) (last := decide ((i : Int) = E.length - 1)) (by omega) hseg1 hseg2
    unfold seg at gf
    have et : ((E[i].toNat : Nat) : Int) = E[i] := by omega
    (repeat (first | refine c_seq ?_ | refine c_reg ?_ | refine c_rnil ?_ | refine c_block ?_ | refine c_skip ?_ | refine c_true ?_ | refine c_op (by first | exact t_move | exact t_lssT | exact t_len | fail) ?_ | fail))
    refine c_draw {} 25 1 [] [] mixed (by kernel_rfl) rfl rfl ?_
    (repeat (first | refine d_op (by first | exact t_call (h := gf) | exact (t_blLn) | exact t_move | exact t_add | exact t_sub | exact t_eql | exact t_len | exact t_idxN | exact t_load | exact t_sliceLH | exact t_allocV | fail) ?_ | fail))
    refine d_nil ?_
    refine q_stLnV 25 102 103 104 4 (by kernel_rfl) rfl fun b3 ad n cap i1 i2 => ?_
    refine q_nil ?_ (by kernel_rfl)
    (repeat (first | refine c_seq ?_ | refine c_reg ?_ | refine c_rnil ?_ | refine c_block ?_ | refine c_op (by first | exact t_move | exact t_assign | fail) ?_ | fail))
    refine c_loop (fun x : Nat × Value => [(0, .pu (pSl eWord ws)), (1, .pu (pI first)), (2, .pu (pI m)), (7, .pu (pSl eI (widsW ws))), (9, .pu (pSl eI E)), (11, .gr eLine L 5 42), (12, .pu (pI a)), (13, .pu (pI i)),
        (14, .pu (pCe b3 0)), (102, .bx b3 1014 [.int .i64 (first + a), .int .i64 (first + E[i]), .slice ad n cap, x.2] 42), (103, .gh (slG (.slice ad n cap) (gapsM (seg (widsW ws) a E[i]) m (decide ((i : Int) = E.length - 1))))), (104, .gv x.2 eI (notesW (segW ws a x.1)) 4 3), (15, .pu (pI x.1))])
      (fun x => a ≤ x.1 ∧ x.1 ≤ E[i].toNat) (fun x => E[i].toNat - x.1) (a, .slice none 0 0) ⟨Nat.le_refl _, by dsimp only; omega⟩ ?_ ?_
    · have e0 : notesW (segW ws a ((a : Nat) : Int)) = [] := by unfold segW; simp [notesW]
      dsimp only
      rw [e0]
      (repeat' (first | exact trivial | refine ⟨?_, ?_⟩ | fail)) <;> (try first | exact has_rfl rfl | exact has_nil rfl | exact has_nilS rfl | exact has_gr rfl | exact has_nilGo rfl | exact has_int rfl (by first | omega | fail) | fail)
    rintro ⟨k, nv⟩ ⟨hk1, hk2⟩ ih3
    dsimp only at hk1 hk2 ih3 ⊢
    by_cases hlk : (k : Int) < E[i]
    · have hkl : k < ws.length := by omega
      have hnt := h.note _ (List.getElem_mem hkl)
      have htk : notesW (segW ws a ((k + 1 : Nat) : Int)) = notesW (segW ws a k) ++ if ws[k].note ≠ 0 then [ws[k].note - 1] else [] := by
        rw [segW_succ hk1 hkl, notesW_append, notesW_one]
      by_cases hno : ws[k].note = 0
      · rw [if_neg (fun hc => hc hno), List.append_nil] at htk
        (repeat (first | refine c_seq ?_ | refine c_reg ?_ | refine c_rnil ?_ | refine c_block ?_ | refine c_inBlock ?_ | refine c_skip ?_ | refine c_true ?_ | refine c_false ?_ | refine c_op (by first | exact t_move | exact t_assign | exact t_add | exact t_lssT | exact t_neqF | exact t_idxN | exact t_load | exact t_fa | fail) ?_ | fail))
        refine (ih3 (k + 1, nv) ⟨by dsimp only; omega, by dsimp only; omega⟩ (by dsimp only; omega)).sub ?_
        dsimp only
        rw [htk]
        (repeat' (first | exact trivial | refine ⟨?_, ?_⟩ | fail)) <;> (try first | exact has_rfl rfl | exact has_nil rfl | exact has_nilS rfl | exact has_gr rfl | exact has_nilGo rfl | exact has_int rfl (by first | omega | fail) | fail)
      · rw [if_pos hno] at htk
        have hnl : (notesW (segW ws a k)).length ≤ 500 := by
          unfold notesW
          rw [List.length_map]
          refine Nat.le_trans (List.length_filter_le _ _) ?_
          unfold segW
          rw [List.length_take]; omega
        (repeat (first | refine c_seq ?_ | refine c_reg ?_ | refine c_rnil ?_ | refine c_block ?_ | refine c_skip ?_ | refine c_true ?_ | refine c_op (by first | exact t_move | exact t_lssT | exact t_neqT | exact t_idxN | exact t_load | exact t_fa | fail) ?_ | fail))
        refine c_draw {} 9 3 [] [] mixed (by kernel_rfl) rfl rfl ?_
        (repeat (first | refine d_op (by first | exact (t_faB) | exact (t_loadB 102) | exact t_move | exact t_sub | exact t_idxN | exact t_load | exact t_fa | exact t_bs | fail) ?_ | fail))
        refine d_nil ?_
        refine q_op 9 (by kernel_rfl) rfl (t_appV 104) ?_
        refine q_name 91 104 fun nv2 => ?_
        refine q_op 10 (by kernel_rfl) rfl t_faB ?_
        refine q_st 11 102 (by kernel_rfl) rfl (t_stV 102 104) ?_
        refine q_nil ?_ (by kernel_rfl)
        (repeat (first | refine c_reg ?_ | refine c_rnil ?_ | refine c_inBlock ?_ | refine c_op (by first | exact t_move | exact t_assign | exact t_add | fail) ?_ | fail))
        refine (ih3 (k + 1, nv2) ⟨by dsimp only; omega, by dsimp only; omega⟩ (by dsimp only; omega)).sub ?_
        dsimp only
        rw [htk]
        (repeat' (first | exact trivial | refine ⟨?_, ?_⟩ | fail)) <;> (try first | exact has_rfl rfl | exact has_nil rfl | exact has_nilS rfl | exact has_gr rfl | exact has_nilGo rfl | exact has_int rfl (by first | omega | fail) | fail)
    · have htk : ((k : Nat) : Int) = E[i] := by omega
      rw [htk]
      (repeat (first | refine c_seq ?_ | refine c_reg ?_ | refine c_rnil ?_ | refine c_inBlock ?_ | refine c_exit ?_ | refine c_false ?_ | refine c_op (by first | exact (t_loadLn 102 103 104 (ha := i1) (he := i2)) | exact t_moveG | exact t_move | exact t_assignG | exact t_assign | exact t_add | exact t_lssF | exact t_idxN | exact t_load | exact t_bs | fail) ?_ | refine c_opW t_app ?_ | fail))
      refine (ih (i + 1, E[i].toNat, L ++ [⟨first + a, first + E[i], gapsM (seg (widsW ws) a E[i]) m (decide ((i : Int) = E.length - 1)), notesW (segW ws a E[i])⟩]) ⟨by dsimp only; omega, by dsimp only; simp [hLi], ?_, by dsimp only; rw [et]; exact o3⟩ (by dsimp only; omega)).sub (by repeat (first | exact trivial | refine ⟨has_rfl rfl, ?_⟩ | refine ⟨has_int rfl (by first | (simp only [List.length_append, List.length_singleton]; omega)), ?_⟩))
      dsimp only
      rw [et, ← hLs]
      simp only [lnGo, List.append_assoc, List.cons_append, List.nil_append, hlast]
  · have hd : E.drop i = [] := List.drop_of_length_le (by omega)
    rw [hd] at hLs
    simp only [lnGo, List.append_nil] at hLs
    rw [← hLs]
    (repeat (first | refine c_seq ?_ | refine c_reg ?_ | refine c_rnil ?_ | refine c_exit ?_ | refine c_false ?_ | refine c_op (by first | exact t_moveG | exact t_move | exact t_assignG | exact t_lssF | exact t_len | fail) ?_ | fail))
    refine c_ret1 Tryd.func34 rfl ?_
    exact fun h => h
end Go.Proofs.YtocoinkhbjlbhaaDoor
end

section
namespace Go.Proofs.YtocoinkhbjlbhaaDoor
open Go Go.RowKit
theorem wErr_ok {w : Wd} {nx n : Int} (h : wErr w nx n = 0) : 0 < widM w.s ∧ (w.key = emp ∨ 0 < widM w.key) ∧ (w.table = 0 ∨ w.table = 1) ∧ (w.note = 0 ∨ (w.note = nx ∧ w.note ≤ n)) := by
  unfold wErr at h
  split at h
  · cases h
  · rename_i h1
    split at h
    · cases h
    · rename_i h2
      split at h
      · cases h
      · rename_i h3
        refine ⟨Classical.byContradiction fun c => h1 (.inl c), ?_, by omega, ?_⟩
        · by_cases hk : w.key = emp
          · exact .inl hk
          · exact .inr (Classical.byContradiction fun c => h1 (.inr ⟨hk, c⟩))
        · by_cases h0 : w.note = 0
          · exact .inl h0
          · refine .inr ⟨Classical.byContradiction fun c => h3 ⟨h0, .inl c⟩, ?_⟩
            by_cases hn : n < w.note
            · exact absurd ⟨h0, .inr hn⟩ h3
            · omega
theorem chkP_ok {n : Int} {K : Int → Int} : ∀ {l : List Wd} {next : Int}, 1 ≤ next → chkP n K l next = 0 → (∀ w ∈ l, ∃ nx, 1 ≤ nx ∧ wErr w nx n = 0) ∧ ∃ nx, 1 ≤ nx ∧ K nx = 0
  | [], next, h1, h => ⟨(fun w hw => by cases hw), next, h1, h⟩
  | w :: r, next, h1, h => by
    simp only [chkP] at h
    by_cases he : wErr w next n = 0
    · rw [if_neg (fun c => c he)] at h
      have h2 : 1 ≤ (if w.note ≠ 0 then next + 1 else next) := by split <;> omega
      obtain ⟨k1, k2⟩ := chkP_ok h2 h
      exact ⟨fun x hx => by
        rcases List.mem_cons.1 hx with rfl | hx
        · exact ⟨next, h1, he⟩
        · exact k1 x hx, k2⟩
    · rw [if_pos he] at h
      exact absurd h he
theorem chkA_ok {n : Int} {K : Int → Int} : ∀ {l : List (List Wd)} {next : Int}, 1 ≤ next → chkA n K l next = 0 → (∀ p ∈ l, ∀ w ∈ p, ∃ nx, 1 ≤ nx ∧ wErr w nx n = 0) ∧ ∃ nx, 1 ≤ nx ∧ K nx = 0
  | [], next, h1, h => ⟨(fun w hw => by cases hw), next, h1, h⟩
  | p :: r, next, h1, h => by
    simp only [chkA] at h
    obtain ⟨k1, nx, k2, k3⟩ := chkP_ok h1 h
    obtain ⟨k4, k5⟩ := chkA_ok k2 k3
    exact ⟨fun q hq => by
      rcases List.mem_cons.1 hq with rfl | hq
      · exact k1
      · exact k4 q hq, k5⟩
theorem chkQ_ok {K : Int} : ∀ {l : List Wd}, chkQ K l = 0 → (∀ w ∈ l, wErr w 0 0 = 0) ∧ K = 0
  | [], h => ⟨(fun w hw => by cases hw), h⟩
  | w :: r, h => by
    simp only [chkQ] at h
    by_cases he : wErr w 0 0 = 0
    · rw [if_neg (fun c => c he)] at h
      obtain ⟨k1, k2⟩ := chkQ_ok h
      exact ⟨fun x hx => by
        rcases List.mem_cons.1 hx with rfl | hx
        · exact he
        · exact k1 x hx, k2⟩
    · rw [if_pos he] at h
      exact absurd h he
theorem chkB_ok {K : Int} : ∀ {l : List (List Wd)}, chkB K l = 0 → (∀ p ∈ l, ∀ w ∈ p, wErr w 0 0 = 0) ∧ K = 0
  | [], h => ⟨(fun w hw => by cases hw), h⟩
  | p :: r, h => by
    simp only [chkB] at h
    obtain ⟨k1, k2⟩ := chkQ_ok h
    obtain ⟨k4, k5⟩ := chkB_ok k2
    exact ⟨fun q hq => by
      rcases List.mem_cons.1 hq with rfl | hq
      · exact k1
      · exact k4 q hq, k5⟩
structure OKT (t : Tx) : Prop where
  np : t.paras.length ≤ 100
  nn : t.notes.length ≤ 100
  par : ∀ p ∈ t.paras, OKR p
  not : ∀ p ∈ t.notes, OKR p
theorem okt_of {t : Tx} (h : chkT t = 0) : OKT t := by
  unfold chkT at h
  by_cases hs : sizeM t = 0
  · rw [if_neg (fun c => c hs)] at h
    obtain ⟨s1, s2, s3⟩ := size_ok hs
    obtain ⟨k1, nx, _, k2⟩ := chkA_ok (by omega) h
    obtain ⟨k3, _⟩ := chkB_ok k2
    refine ⟨s1, s2, fun p hp => ⟨(s3 p (List.mem_append_left _ hp)).2, fun w hw => ?_, fun w hw => ?_⟩, fun p hp => ⟨(s3 p (List.mem_append_right _ hp)).2, fun w hw => ?_, fun w hw => ?_⟩⟩
    · obtain ⟨nx, q1, q2⟩ := k1 p hp w hw
      have := (wErr_ok q2).1
      omega
    · obtain ⟨nx, q1, q2⟩ := k1 p hp w hw
      have := (wErr_ok q2).2.2.2
      omega
    · have := (wErr_ok (k3 p hp w hw)).1
      omega
    · have := (wErr_ok (k3 p hp w hw)).2.2.2
      omega
  · rw [if_pos hs] at h
    exact absurd h hs
theorem lnGo_len (ws : List Wd) (first m : Int) : ∀ (l : List Int) (a : Int), (lnGo ws first m a l).length = l.length
  | [], a => rfl
  | e :: r, a => by simp [lnGo, lnGo_len ws first m r e]
theorem lnsM_len {ws : List Wd} {first m : Int} (h : OKR ws) (hm : 500 ≤ m) : (lnsM ws first m).length ≤ ws.length := by
  unfold lnsM
  rw [lnGo_len]
  have := ordEn_len (ends_ord hm h.ok)
  rw [widsW_len] at this
  omega
def bodyT (t : Tx) (m : Int) : List Line := bodyGo m 0 t.paras
def notesT (t : Tx) (m : Int) : List (List Line) := notesGo m (wordsN t.paras) t.notes
def errT (t : Tx) (m : Int) : Int := if chkT t ≠ 0 then chkT t else if m < 500 ∨ 2000 < m then 5 else 0
theorem wordsN_take {l : List (List Wd)} {i : Nat} (h : i < l.length) : wordsN (l.take (i + 1)) = wordsN (l.take i) + l[i].length := by
  unfold wordsN
  rw [List.take_succ_eq_append_getElem h, List.map_append, List.sum_append]; simp
theorem wordsN_le : ∀ {l : List (List Wd)}, (∀ p ∈ l, p.length ≤ 500) → wordsN l ≤ 500 * l.length
  | [], _ => by simp [wordsN]
  | p :: r, h => by
    have h1 := h p (by simp)
    have h2 := wordsN_le (l := r) (fun q hq => h q (by simp [hq]))
    have e : wordsN (p :: r) = p.length + wordsN r := by simp [wordsN]
    rw [e, List.length_cons]; omega
theorem wordsN_takeLe {l : List (List Wd)} (h : ∀ p ∈ l, p.length ≤ 500) (i : Nat) : wordsN (l.take i) ≤ 500 * l.length := by
  have h1 := wordsN_le (l := l.take i) (fun p hp => h p (List.mem_of_mem_take hp))
  have h2 : (l.take i).length ≤ l.length := by rw [List.length_take]; omega
  omega
set_option maxHeartbeats 8000000 in
theorem linesT_f {t : Tx} {m : Int} (h48 : (t.paras.length + t.notes.length) * 24 ≤ 140737488351232) :
    Fn Tryd.prog 11 [pV eText t, pI m] (pT3 (pSl eLine (if errT t m = 0 then bodyT t m else [])) (pSl (eSl eLine) (if errT t m = 0 then notesT t m else [])) (pI (errT t m))) := by
  refine fn_of ent11 Tryd.func11 rfl Tryd.ntmps11 rfl fun M0 w0 => ?_
  by_cases hc : chkT t = 0
  rotate_left
  · have e : errT t m = chkT t := by unfold errT; rw [if_pos hc]
    rw [e, if_neg hc, if_neg hc]
    (repeat (first | refine c_seq ?_ | refine c_reg ?_ | refine c_rnil ?_ | refine c_true ?_ | refine c_op (by first | exact t_call (h := (check25_f h48)) | exact t_move | exact t_assign | exact t_neqT | exact t_load | exact t_boxP | fail) ?_ | fail))
    refine c_ret3 Tryd.func11 rfl ?_
    exact fun h1 h2 h3 => ⟨_, _, _, rfl, by rw [show _ = _ from h1]; exact SlOf.nil _ _ _, by rw [show _ = _ from h2]; exact SlOf.nil _ _ _, h3⟩
  by_cases hm : m < 500 ∨ 2000 < m
  · have e : errT t m = 5 := by unfold errT; rw [if_neg (fun c => c hc), if_pos hm]
    rw [e, if_neg (by decide), if_neg (by decide)]
    by_cases hm1 : m < 500
    · (repeat (first | refine c_seq ?_ | refine c_reg ?_ | refine c_rnil ?_ | refine c_skip ?_ | refine c_true ?_ | refine c_false ?_ | refine c_no ?_ | refine c_op (by first | exact t_call (h := (check25_f h48)) | exact t_move | exact t_assign | exact t_pickT | exact t_lssT | exact t_neqF | exact t_load | exact t_boxP | fail) ?_ | fail))
      refine c_ret3 Tryd.func11 rfl ?_
      exact fun h1 h2 h3 => ⟨_, _, _, rfl, by rw [show _ = _ from h1]; exact SlOf.nil _ _ _, by rw [show _ = _ from h2]; exact SlOf.nil _ _ _, h3⟩
    · have hm2 : 2000 < m := by omega
      (repeat (first | refine c_seq ?_ | refine c_reg ?_ | refine c_rnil ?_ | refine c_skip ?_ | refine c_true ?_ | refine c_false ?_ | refine c_yes ?_ | refine c_op (by first | exact t_call (h := (check25_f h48)) | exact t_move | exact t_assign | exact t_pickF | exact t_lssF | exact t_gtrT | exact t_neqF | exact t_load | exact t_boxP | fail) ?_ | fail))
      refine c_ret3 Tryd.func11 rfl ?_
      exact fun h1 h2 h3 => ⟨_, _, _, rfl, by rw [show _ = _ from h1]; exact SlOf.nil _ _ _, by rw [show _ = _ from h2]; exact SlOf.nil _ _ _, h3⟩
  have e : errT t m = 0 := by unfold errT; rw [if_neg (fun c => c hc), if_neg hm]
  rw [e, if_pos rfl, if_pos rfl]
  have hok := okt_of hc
  have hm' : 500 ≤ m ∧ m ≤ 2000 := by omega
  have hnp := hok.np
  have hnn := hok.nn
  have hpl : ∀ p ∈ t.paras, p.length ≤ 500 := fun p hp => (hok.par p hp).len
  have hnl : ∀ p ∈ t.notes, p.length ≤ 500 := fun p hp => (hok.not p hp).len
  have hwp := wordsN_le hpl
  (repeat (first | refine c_seq ?_ | refine c_reg ?_ | refine c_rnil ?_ | refine c_block ?_ | refine c_skip ?_ | refine c_false ?_ | refine c_yes ?_ | refine c_op (by first | exact t_call (h := (check25_f h48)) | exact t_move | exact t_assign | exact t_pickF | exact t_lssF | exact t_gtrF | exact t_neqF | exact t_len | exact t_load | exact t_fa | exact t_boxP | fail) ?_ | fail))
  refine c_loop (fun x : Nat × List Line => [(1, .pu (pI m)), (2, .pu (pPtr eText t)), (8, .gr eLine x.2 1 42), (9, .pu (pv (.slice none 0 0))), (10, .pu (pI (wordsN (t.paras.take x.1)))), (27, .pu (pSl (eSl eWord) t.paras)), (28, .pu (pI t.paras.length)), (29, .pu (pI x.1))])
    (fun x => x.1 ≤ t.paras.length ∧ x.2.length ≤ wordsN (t.paras.take x.1) ∧ x.2 ++ bodyGo m (wordsN (t.paras.take x.1)) (t.paras.drop x.1) = bodyT t m) (fun x => t.paras.length - x.1) (0, []) ⟨by simp, by simp, rfl⟩ (by repeat (first | exact trivial | refine ⟨has_rfl rfl, ?_⟩ | refine ⟨has_nil rfl, ?_⟩ | fail)) ?_
  rintro ⟨i, L⟩ ⟨hi, hLl, hL⟩ ih
  dsimp only at hi hLl hL ih ⊢
  have hti := wordsN_takeLe hpl i
  by_cases hlt : i < t.paras.length
  · rw [List.drop_eq_getElem_cons hlt] at hL
    simp only [bodyGo] at hL
    have hokp := hok.par _ (List.getElem_mem hlt)
    have hpll := hokp.len
    have hts := wordsN_take hlt
    have hll := lnsM_len (first := (wordsN (t.paras.take i) : Nat)) hokp hm'.1
    (repeat (first | refine c_seq ?_ | refine c_reg ?_ | refine c_rnil ?_ | refine c_block ?_ | refine c_inBlock ?_ | refine c_skip ?_ | refine c_true ?_ | refine c_op (by first | exact t_call (h := (setL_f hm' (by omega) hokp)) | exact t_moveG | exact t_move | exact t_assignG | exact t_assign | exact t_add | exact t_lssT | exact t_len | exact t_idxN | exact t_load | fail) ?_ | refine c_opW t_app ?_ | fail))
    refine (ih (i + 1, L ++ lnsM t.paras[i] (wordsN (t.paras.take i) : Nat) m) ⟨by dsimp only; omega, by dsimp only; rw [List.length_append]; omega, ?_⟩ (by dsimp only; omega)).sub (by repeat (first | exact trivial | refine ⟨has_rfl rfl, ?_⟩ | refine ⟨has_int rfl (by first | (simp only [List.length_append, List.length_singleton]; omega)), ?_⟩))
    dsimp only
    rw [← hL, hts, List.append_assoc]
    rfl
  · have hd : t.paras.drop i = [] := List.drop_of_length_le (by omega)
    rw [hd] at hL
    simp only [bodyGo, List.append_nil] at hL
    have hti2 : t.paras.take i = t.paras := List.take_of_length_le (by omega)
    rw [hti2] at hLl ⊢
    (repeat (first | refine c_seq ?_ | refine c_reg ?_ | refine c_rnil ?_ | refine c_block ?_ | refine c_exit ?_ | refine c_false ?_ | refine c_op (by first | exact t_move | exact t_lssF | exact t_len | exact t_load | exact t_fa | fail) ?_ | fail))
    refine c_loop (fun x : Nat × List (List Line) => [(1, .pu (pI m)), (2, .pu (pPtr eText t)), (8, .gr eLine L 1 42), (9, .gr (eSl eLine) x.2 2 33), (10, .pu (pI (wordsN t.paras + wordsN (t.notes.take x.1) : Nat))), (45, .pu (pSl (eSl eWord) t.notes)), (46, .pu (pI t.notes.length)), (47, .pu (pI x.1))])
      (fun x => x.1 ≤ t.notes.length ∧ x.2.length = x.1 ∧ x.2 ++ notesGo m (wordsN t.paras + wordsN (t.notes.take x.1) : Nat) (t.notes.drop x.1) = notesT t m) (fun x => t.notes.length - x.1) (0, []) ⟨by simp, rfl, rfl⟩ (by repeat (first | exact trivial | refine ⟨has_rfl rfl, ?_⟩ | refine ⟨has_nil rfl, ?_⟩ | fail)) ?_
    rintro ⟨j, Ns⟩ ⟨hj, hNl, hN⟩ ih2
    dsimp only at hj hNl hN ih2 ⊢
    have htj := wordsN_takeLe hnl j
    by_cases hlj : j < t.notes.length
    · rw [List.drop_eq_getElem_cons hlj] at hN
      simp only [notesGo] at hN
      have hokp := hok.not _ (List.getElem_mem hlj)
      have hpll := hokp.len
      have hts := wordsN_take hlj
      (repeat (first | refine c_seq ?_ | refine c_reg ?_ | refine c_rnil ?_ | refine c_block ?_ | refine c_inBlock ?_ | refine c_skip ?_ | refine c_true ?_ | refine c_op (by first | exact t_call (h := (setL_f hm' (by omega) hokp)) | exact t_moveG | exact t_move | exact t_assignG | exact t_assign | exact t_add | exact t_lssT | exact t_len | exact t_idxN | exact t_load | exact t_bs | fail) ?_ | refine c_opW t_app ?_ | fail))
      refine (ih2 (j + 1, Ns ++ [lnsM t.notes[j] (wordsN t.paras + wordsN (t.notes.take j) : Nat) m]) ⟨by dsimp only; omega, by dsimp only; rw [List.length_append, List.length_singleton]; omega, ?_⟩ (by dsimp only; omega)).sub (by repeat (first | exact trivial | refine ⟨has_rfl rfl, ?_⟩ | refine ⟨has_int rfl (by first | (simp only [List.length_append, List.length_singleton]; omega)), ?_⟩))
      dsimp only
      rw [← hN, hts, List.append_assoc, ← Nat.add_assoc]
      rfl
    · have hd : t.notes.drop j = [] := List.drop_of_length_le (by omega)
      rw [hd] at hN
      simp only [notesGo, List.append_nil] at hN
      rw [← hL, ← hN]
      (repeat (first | refine c_seq ?_ | refine c_reg ?_ | refine c_rnil ?_ | refine c_exit ?_ | refine c_false ?_ | refine c_op (by first | exact t_moveG | exact t_assignG | exact t_assign | exact t_lssF | fail) ?_ | fail))
      refine c_ret3 Tryd.func11 rfl ?_
      exact fun h1 h2 h3 => ⟨_, _, _, rfl, h1, h2, h3⟩
end Go.Proofs.YtocoinkhbjlbhaaDoor
end

section
namespace Go.Proofs.YtocoinkhbjlbhaaDoor
open Go Go.RowKit
set_option maxHeartbeats 8000000 in
theorem linesTR_f {t : Tx} {m : Int} :
    Fn Tryd.prog 12 [pV eText t, pI m] (pT3 (pSl eLine (if errT t m = 0 then bodyT t m else [])) (pSl (eSl eLine) (if errT t m = 0 then notesT t m else [])) (pI (errT t m))) := by
  refine fn_of ent12 Tryd.func12 rfl Tryd.ntmps12 rfl fun M0 w0 => ?_
  by_cases hc : chkT t = 0
  rotate_left
  · have e : errT t m = chkT t := by unfold errT; rw [if_pos hc]
    rw [e, if_neg hc, if_neg hc]
    (repeat (first | refine c_seq ?_ | refine c_reg ?_ | refine c_rnil ?_ | refine c_true ?_ | refine c_op (by first | exact t_call (h := checkR_f) | exact t_move | exact t_assign | exact t_neqT | exact t_load | exact t_boxP | fail) ?_ | fail))
    refine c_ret3 Tryd.func12 rfl ?_
    exact fun h1 h2 h3 => ⟨_, _, _, rfl, by rw [show _ = _ from h1]; exact SlOf.nil _ _ _, by rw [show _ = _ from h2]; exact SlOf.nil _ _ _, h3⟩
  by_cases hm : m < 500 ∨ 2000 < m
  · have e : errT t m = 5 := by unfold errT; rw [if_neg (fun c => c hc), if_pos hm]
    rw [e, if_neg (by decide), if_neg (by decide)]
    by_cases hm1 : m < 500
    · (repeat (first | refine c_seq ?_ | refine c_reg ?_ | refine c_rnil ?_ | refine c_skip ?_ | refine c_true ?_ | refine c_false ?_ | refine c_no ?_ | refine c_op (by first | exact t_call (h := checkR_f) | exact t_move | exact t_assign | exact t_pickT | exact t_lssT | exact t_neqF | exact t_load | exact t_boxP | fail) ?_ | fail))
      refine c_ret3 Tryd.func12 rfl ?_
      exact fun h1 h2 h3 => ⟨_, _, _, rfl, by rw [show _ = _ from h1]; exact SlOf.nil _ _ _, by rw [show _ = _ from h2]; exact SlOf.nil _ _ _, h3⟩
    · have hm2 : 2000 < m := by omega
      (repeat (first | refine c_seq ?_ | refine c_reg ?_ | refine c_rnil ?_ | refine c_skip ?_ | refine c_true ?_ | refine c_false ?_ | refine c_yes ?_ | refine c_op (by first | exact t_call (h := checkR_f) | exact t_move | exact t_assign | exact t_pickF | exact t_lssF | exact t_gtrT | exact t_neqF | exact t_load | exact t_boxP | fail) ?_ | fail))
      refine c_ret3 Tryd.func12 rfl ?_
      exact fun h1 h2 h3 => ⟨_, _, _, rfl, by rw [show _ = _ from h1]; exact SlOf.nil _ _ _, by rw [show _ = _ from h2]; exact SlOf.nil _ _ _, h3⟩
  have e : errT t m = 0 := by unfold errT; rw [if_neg (fun c => c hc), if_neg hm]
  rw [e, if_pos rfl, if_pos rfl]
  have hok := okt_of hc
  have hm' : 500 ≤ m ∧ m ≤ 2000 := by omega
  have hnp := hok.np
  have hnn := hok.nn
  have hpl : ∀ p ∈ t.paras, p.length ≤ 500 := fun p hp => (hok.par p hp).len
  have hnl : ∀ p ∈ t.notes, p.length ≤ 500 := fun p hp => (hok.not p hp).len
  have hwp := wordsN_le hpl
  (repeat (first | refine c_seq ?_ | refine c_reg ?_ | refine c_rnil ?_ | refine c_block ?_ | refine c_skip ?_ | refine c_false ?_ | refine c_yes ?_ | refine c_op (by first | exact t_call (h := checkR_f) | exact t_move | exact t_assign | exact t_pickF | exact t_lssF | exact t_gtrF | exact t_neqF | exact t_load | exact t_boxP | fail) ?_ | fail))
  refine c_loop (fun x : Nat × List Line => [(1, .pu (pI m)), (2, .pu (pPtr eText t)), (8, .gr eLine x.2 1 42), (9, .pu (pI (wordsN (t.paras.take x.1)))), (10, .pu (pI x.1))])
    (fun x => x.1 ≤ t.paras.length ∧ x.2.length ≤ wordsN (t.paras.take x.1) ∧ x.2 ++ bodyGo m (wordsN (t.paras.take x.1)) (t.paras.drop x.1) = bodyT t m) (fun x => t.paras.length - x.1) (0, []) ⟨by simp, by simp, rfl⟩ (by repeat (first | exact trivial | refine ⟨has_rfl rfl, ?_⟩ | refine ⟨has_nil rfl, ?_⟩ | fail)) ?_
  rintro ⟨i, L⟩ ⟨hi, hLl, hL⟩ ih
  dsimp only at hi hLl hL ih ⊢
  have hti := wordsN_takeLe hpl i
  by_cases hlt : i < t.paras.length
  · rw [List.drop_eq_getElem_cons hlt] at hL
    simp only [bodyGo] at hL
    have hokp := hok.par _ (List.getElem_mem hlt)
    have hpll := hokp.len
    have hts := wordsN_take hlt
    have hll := lnsM_len (first := (wordsN (t.paras.take i) : Nat)) hokp hm'.1
    (repeat (first | refine c_seq ?_ | refine c_reg ?_ | refine c_rnil ?_ | refine c_block ?_ | refine c_inBlock ?_ | refine c_skip ?_ | refine c_true ?_ | refine c_op (by first | exact t_call (h := (linesR_f hm' (by omega) hokp)) | exact t_moveG | exact t_move | exact t_assignG | exact t_assign | exact t_add | exact t_lssT | exact t_len | exact t_idxN | exact t_load | exact t_fa | fail) ?_ | refine c_opW t_app ?_ | fail))
    refine (ih (i + 1, L ++ lnsM t.paras[i] (wordsN (t.paras.take i) : Nat) m) ⟨by dsimp only; omega, by dsimp only; rw [List.length_append]; omega, ?_⟩ (by dsimp only; omega)).sub (by repeat (first | exact trivial | refine ⟨has_rfl rfl, ?_⟩ | refine ⟨has_int rfl (by first | (simp only [List.length_append, List.length_singleton]; omega)), ?_⟩))
    dsimp only
    rw [← hL, hts, List.append_assoc]
    rfl
  · have hd : t.paras.drop i = [] := List.drop_of_length_le (by omega)
    rw [hd] at hL
    simp only [bodyGo, List.append_nil] at hL
    have hti2 : t.paras.take i = t.paras := List.take_of_length_le (by omega)
    rw [hti2] at hLl ⊢
    (repeat (first | refine c_seq ?_ | refine c_reg ?_ | refine c_rnil ?_ | refine c_block ?_ | refine c_exit ?_ | refine c_false ?_ | refine c_op (by first | exact t_move | exact t_assign | exact t_lssF | exact t_len | exact t_load | exact t_fa | fail) ?_ | fail))
    refine c_loop (fun x : Nat × List (List Line) => [(1, .pu (pI m)), (2, .pu (pPtr eText t)), (8, .gr eLine L 1 42), (11, .gr (eSl eLine) x.2 2 33), (9, .pu (pI (wordsN t.paras + wordsN (t.notes.take x.1) : Nat))), (12, .pu (pI x.1))])
      (fun x => x.1 ≤ t.notes.length ∧ x.2.length = x.1 ∧ x.2 ++ notesGo m (wordsN t.paras + wordsN (t.notes.take x.1) : Nat) (t.notes.drop x.1) = notesT t m) (fun x => t.notes.length - x.1) (0, []) ⟨by simp, rfl, rfl⟩ (by repeat (first | exact trivial | refine ⟨has_rfl rfl, ?_⟩ | refine ⟨has_nil rfl, ?_⟩ | fail)) ?_
    rintro ⟨j, Ns⟩ ⟨hj, hNl, hN⟩ ih2
    dsimp only at hj hNl hN ih2 ⊢
    have htj := wordsN_takeLe hnl j
    by_cases hlj : j < t.notes.length
    · rw [List.drop_eq_getElem_cons hlj] at hN
      simp only [notesGo] at hN
      have hokp := hok.not _ (List.getElem_mem hlj)
      have hpll := hokp.len
      have hts := wordsN_take hlj
      (repeat (first | refine c_seq ?_ | refine c_reg ?_ | refine c_rnil ?_ | refine c_block ?_ | refine c_inBlock ?_ | refine c_skip ?_ | refine c_true ?_ | refine c_op (by first | exact t_call (h := (linesR_f hm' (by omega) hokp)) | exact t_moveG | exact t_move | exact t_assignG | exact t_assign | exact t_add | exact t_lssT | exact t_len | exact t_idxN | exact t_load | exact t_fa | exact t_bs | fail) ?_ | refine c_opW t_app ?_ | fail))
      refine (ih2 (j + 1, Ns ++ [lnsM t.notes[j] (wordsN t.paras + wordsN (t.notes.take j) : Nat) m]) ⟨by dsimp only; omega, by dsimp only; rw [List.length_append, List.length_singleton]; omega, ?_⟩ (by dsimp only; omega)).sub (by repeat (first | exact trivial | refine ⟨has_rfl rfl, ?_⟩ | refine ⟨has_int rfl (by first | (simp only [List.length_append, List.length_singleton]; omega)), ?_⟩))
      dsimp only
      rw [← hN, hts, List.append_assoc, ← Nat.add_assoc]
      rfl
    · have hd : t.notes.drop j = [] := List.drop_of_length_le (by omega)
      rw [hd] at hN
      simp only [notesGo, List.append_nil] at hN
      rw [← hL, ← hN]
      (repeat (first | refine c_seq ?_ | refine c_reg ?_ | refine c_rnil ?_ | refine c_exit ?_ | refine c_false ?_ | refine c_op (by first | exact t_moveG | exact t_move | exact t_assignG | exact t_assign | exact t_lssF | exact t_len | exact t_load | exact t_fa | fail) ?_ | fail))
      refine c_ret3 Tryd.func12 rfl ?_
      exact fun h1 h2 h3 => ⟨_, _, _, rfl, h1, h2, h3⟩
end Go.Proofs.YtocoinkhbjlbhaaDoor
end

section
namespace Go.Proofs.YtocoinkhbjlbhaaDoor
open Go Go.RowKit
def nts (l : List Wd) : List Int := (l.filter fun w => decide (w.note ≠ 0)).map fun w => w.note
def seqI (a : Int) : Nat → List Int
  | 0 => []
  | c + 1 => a :: seqI (a + 1) c
theorem seqI_snoc : ∀ (c : Nat) (a : Int), seqI a (c + 1) = seqI a c ++ [a + c]
  | 0, a => by simp [seqI]
  | c + 1, a => by
    rw [seqI, seqI_snoc c (a + 1)]
    simp only [seqI, List.cons_append]
    congr 3
    omega
theorem nts_append (a b : List Wd) : nts (a ++ b) = nts a ++ nts b := by simp [nts]
theorem nts_none {l : List Wd} (h : ∀ w ∈ l, w.note = 0) : nts l = [] := by
  unfold nts
  rw [List.filter_eq_nil_iff.2 (fun w hw => by simp [h w hw])]
  rfl
structure VT (t : Tx) : Prop where
  np : 1 ≤ t.paras.length ∧ t.paras.length ≤ 4
  nn : t.notes.length ≤ 4
  len : ∀ p ∈ t.paras ++ t.notes, 1 ≤ p.length ∧ p.length ≤ 40
  par : ∀ p ∈ t.paras, ∀ w ∈ p, OKWd w
  not : ∀ p ∈ t.notes, ∀ w ∈ p, OKWd w ∧ w.note = 0
  seq : nts t.paras.flatten = seqI 1 t.notes.length
theorem chkP_append {n : Int} {K : Int → Int} : ∀ (a b : List Wd) (next : Int), chkP n K (a ++ b) next = chkP n (chkP n K b) a next
  | [], b, next => rfl
  | w :: a, b, next => by simp only [List.cons_append, chkP, chkP_append a b]
theorem chkA_flat {n : Int} {K : Int → Int} : ∀ (ps : List (List Wd)) (next : Int), chkA n K ps next = chkP n K ps.flatten next
  | [], next => rfl
  | p :: r, next => by
    rw [chkA, List.flatten_cons, chkP_append]
    congr 1
    funext x
    exact chkA_flat r x
theorem wErr_okw {w : Wd} {next n : Int} (h : OKWd w) (h2 : w.note = 0 ∨ (w.note = next ∧ next ≤ n)) : wErr w next n = 0 := by
  unfold wErr
  rw [if_neg (fun c => c.elim (fun c => c h.s) (fun c => h.key.elim c.1 c.2)), if_neg (fun c => h.table.elim c.1 c.2), if_neg]
  rintro ⟨c1, c2⟩
  rcases h2 with h2 | ⟨h2, h3⟩
  · exact c1 h2
  · rcases c2 with c2 | c2
    · exact c2 h2
    · omega
theorem chkP_seq {n : Int} {K : Int → Int} : ∀ {l : List Wd} {next : Int} {c : Nat}, (∀ w ∈ l, OKWd w) → nts l = seqI next c → next + c ≤ n + 1 → chkP n K l next = K (next + c)
  | [], next, c, _, h, _ => by
    cases c with
    | zero => simp [chkP]
    | succ c => simp [nts, seqI] at h
  | w :: r, next, c, hw, h, hc => by
    have hw0 := hw w (by simp)
    have hr : ∀ x ∈ r, OKWd x := fun x hx => hw x (by simp [hx])
    by_cases h0 : w.note = 0
    · have hn : nts (w :: r) = nts r := by simp [nts, h0]
      rw [hn] at h
      simp only [chkP]
      rw [if_neg (fun q => q (wErr_okw hw0 (.inl h0))), if_neg (fun q => q h0)]
      exact chkP_seq hr h hc
    · have hn : nts (w :: r) = w.note :: nts r := by simp [nts, h0]
      rw [hn] at h
      cases c with
      | zero => simp [seqI] at h
      | succ c =>
        simp only [seqI, List.cons.injEq] at h
        simp only [chkP]
        rw [if_neg (fun q => q (wErr_okw hw0 (.inr ⟨h.1, by omega⟩))), if_pos h0, chkP_seq hr h.2 (by omega)]
        congr 1
        omega
theorem chkQ_zero {K : Int} : ∀ {l : List Wd}, (∀ w ∈ l, OKWd w ∧ w.note = 0) → chkQ K l = K
  | [], _ => rfl
  | w :: r, h => by
    obtain ⟨h1, h2⟩ := h w (by simp)
    simp only [chkQ]
    rw [if_neg (fun q => q (wErr_okw h1 (.inl h2)))]
    exact chkQ_zero (fun x hx => h x (by simp [hx]))
theorem chkB_zero {K : Int} : ∀ {l : List (List Wd)}, (∀ p ∈ l, ∀ w ∈ p, OKWd w ∧ w.note = 0) → chkB K l = K
  | [], _ => rfl
  | p :: r, h => by
    simp only [chkB]
    rw [chkQ_zero (h p (by simp))]
    exact chkB_zero (fun q hq => h q (by simp [hq]))
theorem VT.chk {t : Tx} (h : VT t) : chkT t = 0 := by
  have hs : sizeM t = 0 := by
    unfold sizeM
    have h1 := h.np
    have h2 := h.nn
    rw [if_neg (by omega), if_neg, if_neg]
    · unfold noneP
      simp only [List.any_eq_true, not_exists, decide_eq_true_eq, not_and]
      intro p hp
      have := h.len p hp
      omega
    · unfold longP
      simp only [List.any_eq_true, not_exists, decide_eq_true_eq, not_and]
      intro p hp
      have := h.len p hp
      omega
  unfold chkT
  rw [if_neg (fun q => q hs), chkA_flat, chkP_seq (c := t.notes.length) (fun w hw => by
    obtain ⟨p, hp, hw⟩ := List.mem_flatten.1 hw
    exact h.par p hp w hw) h.seq (by omega), chkB_zero h.not]
  unfold lastK
  rw [if_neg]
  omega
theorem fromGo_ge : ∀ (l : List Wd) (i f : Nat), f ≤ i → (∀ j (hj : j < l.length), fromGo l i f ≤ i + j → l[j].note = 0) ∧ (f ≤ fromGo l i f)
  | [], i, f, h => ⟨fun j hj => by simp at hj, by simp [fromGo]⟩
  | w :: r, i, f, h => by
    simp only [fromGo]
    obtain ⟨k1, k2⟩ := fromGo_ge r (i + 1) (if w.note ≠ 0 then i + 1 else f) (by split <;> omega)
    refine ⟨fun j hj hle => ?_, ?_⟩
    · cases j with
      | zero =>
        simp only [List.getElem_cons_zero]
        by_cases h0 : w.note = 0
        · exact h0
        · rw [if_pos h0] at k2 hle
          omega
      | succ j =>
        simp only [List.getElem_cons_succ]
        exact k1 j (by simpa using hj) (by omega)
    · by_cases h0 : w.note = 0
      · rw [if_neg (fun q => q h0)] at k2 ⊢
        exact k2
      · rw [if_pos h0] at k2 ⊢
        omega
theorem from_note {ws : List Wd} {j : Nat} (hj : j < ws.length) (h : fromM ws ≤ j) : ws[j].note = 0 := (fromGo_ge ws 0 0 (Nat.le_refl _)).1 j hj (by unfold fromM at h; omega)
theorem findK_spec {ps : List (List Wd)} : ∀ {f k j : Nat}, findK ps k f = some j → k + f ≤ ps.length → j < ps.length ∧ refOk ((ps[j]?).getD []) (lastM ps j) = true
  | 0, k, j, h, _ => by cases h
  | f + 1, k, j, h, hl => by
    simp only [findK] at h
    split at h
    · cases h
      exact ⟨by omega, by assumption⟩
    · exact findK_spec h (by omega)
theorem part_vt {n most : Int} (hn : 0 ≤ n) (hm : 1 ≤ most ∧ most ≤ 40) : 1 ≤ (partM n most).length ∧ (partM n most).length ≤ 40 ∧ ∀ w ∈ partM n most, OKWd w ∧ w.note = 0 := by
  have h1 := tmod_rng' (k := most) hn (by omega)
  unfold partM
  rw [partGo_len]
  exact ⟨by omega, by omega, partGo_ok _ _⟩
theorem noteStep_vt {t : Tx} (h : VT t) (hn : t.notes.length ≤ 3) {n : Int} (h0 : 0 ≤ n) : VT (noteStep t n) ∧ (noteStep t n).notes.length ≤ t.notes.length + 1 := by
  unfold noteStep
  split
  · exact ⟨h, by omega⟩
  · rename_i k hk
    obtain ⟨hkl, hro⟩ := findK_spec hk (by omega)
    obtain ⟨p1, p2, p3⟩ := part_vt h0 (most := 12) (by omega)
    have hget : (t.paras[k]?).getD [] = t.paras[k] := by rw [List.getElem?_eq_getElem hkl]; rfl
    rw [hget] at hro ⊢
    have hro2 : lastM t.paras k = false ∧ fromM t.paras[k] < t.paras[k].length := by
      unfold refOk at hro
      simpa using hro
    obtain ⟨hl, hf⟩ := hro2
    obtain ⟨a1, a2⟩ := refAt_lt h0 hf
    obtain ⟨q, hq⟩ : ∃ q, q = refAt t.paras[k] n := ⟨_, rfl⟩
    rw [← hq] at a1 a2
    have hmem : t.paras[k] ∈ t.paras := List.getElem_mem hkl
    have hw := h.par _ hmem _ (List.getElem_mem a2)
    obtain ⟨w', hw'⟩ : ∃ w', w' = ({ t.paras[k][q] with note := (t.notes.length : Int) + 1 } : Wd) := ⟨_, rfl⟩
    have hput : putRef t.paras[k] n ((t.notes.length : Int) + 1) = t.paras[k].set q w' := by
      unfold putRef
      rw [← hq, List.getElem?_eq_getElem a2, hw']
      rfl
    rw [hput]
    have hok' : OKWd w' := by rw [hw']; exact ⟨hw.s, hw.key, hw.table⟩
    have hset : ∀ p ∈ t.paras.set k (t.paras[k].set q w'), (p.length = t.paras[k].length ∧ ∀ w ∈ p, OKWd w) ∨ p ∈ t.paras := fun p hp => by
      rcases List.mem_or_eq_of_mem_set hp with hp | rfl
      · exact .inr hp
      · refine .inl ⟨by simp, fun w hw => ?_⟩
        rcases List.mem_or_eq_of_mem_set hw with hw | rfl
        · exact h.par _ hmem w hw
        · exact hok'
    have hlen0 := h.len _ (List.mem_append_left _ hmem)
    refine ⟨⟨by simpa using h.np, by simp; omega, fun p hp => ?_, fun p hp => ?_, fun p hp => ?_, ?_⟩, by simp⟩
    · rcases List.mem_append.1 hp with hp | hp
      · rcases hset p hp with ⟨e, _⟩ | hp
        · omega
        · exact h.len p (List.mem_append_left _ hp)
      · rcases List.mem_append.1 hp with hp | hp
        · exact h.len p (List.mem_append_right _ hp)
        · rw [List.mem_singleton.1 hp]; exact ⟨p1, p2⟩
    · rcases hset p hp with ⟨_, e⟩ | hp
      · exact e
      · exact h.par p hp
    · rcases List.mem_append.1 hp with hp | hp
      · exact h.not p hp
      · rw [List.mem_singleton.1 hp]; exact p3
    · have hseq := h.seq
      have e1 : t.paras = t.paras.take k ++ t.paras[k] :: t.paras.drop (k + 1) := by rw [← List.drop_eq_getElem_cons hkl, List.take_append_drop]
      have e2 : t.paras.set k (t.paras[k].set q w') = t.paras.take k ++ (t.paras[k].set q w') :: t.paras.drop (k + 1) := List.set_eq_take_append_cons_drop.trans (by rw [if_pos hkl])
      have hd : nts (t.paras.drop (k + 1)).flatten = [] := nts_none fun w hw => by
        obtain ⟨p, hp, hw⟩ := List.mem_flatten.1 hw
        unfold lastM at hl
        rw [List.any_eq_false] at hl
        have := hl p hp
        rw [Bool.not_eq_true, List.any_eq_false] at this
        have := this w hw
        simpa using this
      have e3 : t.paras[k] = t.paras[k].take q ++ t.paras[k][q] :: t.paras[k].drop (q + 1) := by rw [← List.drop_eq_getElem_cons a2, List.take_append_drop]
      have e4 : t.paras[k].set q w' = t.paras[k].take q ++ w' :: t.paras[k].drop (q + 1) := List.set_eq_take_append_cons_drop.trans (by rw [if_pos a2])
      have hd2 : nts (t.paras[k].drop (q + 1)) = [] := nts_none fun w hw => by
        obtain ⟨j, hj, rfl⟩ := List.mem_iff_getElem.1 hw
        rw [List.getElem_drop]
        rw [List.length_drop] at hj
        exact from_note (by omega) (by omega)
      have hn1 : nts [t.paras[k][q]] = [] := nts_none fun w hw => by rw [List.mem_singleton.1 hw]; exact from_note a2 a1
      have hn2 : nts [w'] = [(t.notes.length : Int) + 1] := by
        rw [hw']
        unfold nts
        have : ¬ ((t.notes.length : Int) + 1 = 0) := by omega
        simp [this]
      have f1 : nts t.paras.flatten = nts (t.paras.take k).flatten ++ nts (t.paras[k].take q) := by
        conv => lhs; rw [e1]
        rw [List.flatten_append, List.flatten_cons, nts_append, nts_append, hd, List.append_nil]
        conv => lhs; rw [e3]
        rw [nts_append, show t.paras[k][q] :: t.paras[k].drop (q + 1) = [t.paras[k][q]] ++ t.paras[k].drop (q + 1) from rfl, nts_append, hn1, hd2]
        simp
      have f2 : nts (t.paras.set k (t.paras[k].set q w')).flatten = nts (t.paras.take k).flatten ++ nts (t.paras[k].take q) ++ [(t.notes.length : Int) + 1] := by
        rw [e2, List.flatten_append, List.flatten_cons, nts_append, nts_append, hd, List.append_nil, e4, nts_append, show w' :: t.paras[k].drop (q + 1) = [w'] ++ t.paras[k].drop (q + 1) from rfl, nts_append, hn2, hd2]
        simp
      rw [f2, ← f1, hseq, List.length_append, List.length_singleton, seqI_snoc]
      congr 2
      omega
theorem textN_vt (l : List Int) : ∀ c, c ≤ 3 → VT (textN l c) ∧ (textN l c).notes.length ≤ c
  | 0, _ => by
    have hc0 := pickM_bd l 0 4 (by omega)
    have hpar : ∀ p ∈ paras0 l, 1 ≤ p.length ∧ p.length ≤ 40 ∧ ∀ w ∈ p, OKWd w ∧ w.note = 0 := fun p hp => by
      obtain ⟨j, _, rfl⟩ := List.mem_map.1 hp
      exact part_vt (pickM_bd l (2 + j) 1000000 (by omega)).1 (by omega)
    have hlen : (paras0 l).length = (pickM l 0 4).toNat + 1 := by simp [paras0]
    refine ⟨⟨?_, Nat.zero_le _, fun p hp => ?_, fun p hp w hw => ((hpar p hp).2.2 w hw).1, (fun p hp => by cases hp), ?_⟩, Nat.le_refl _⟩
    · show 1 ≤ (paras0 l).length ∧ (paras0 l).length ≤ 4
      omega
    · have hp' : p ∈ paras0 l := by
        have : p ∈ paras0 l ++ [] := hp
        simpa using this
      have := hpar p hp'
      omega
    · exact nts_none fun w hw => by
        obtain ⟨p, hp, hw⟩ := List.mem_flatten.1 hw
        exact ((hpar p hp).2.2 w hw).2
  | c + 1, hc => by
    obtain ⟨h1, h2⟩ := textN_vt l c (by omega)
    rw [textN_succ]
    obtain ⟨h3, h4⟩ := noteStep_vt h1 (by omega) (pickM_bd l (6 + c) 1000000 (by omega)).1
    exact ⟨h3, by omega⟩
theorem textM_vt (l : List Int) : VT (textM l) := by
  have hc1 := pickM_bd l 1 4 (by omega)
  exact (textN_vt l _ (by omega)).1
end Go.Proofs.YtocoinkhbjlbhaaDoor
end

section
namespace Go.Proofs.YtocoinkhbjlbhaaDoor
def ordM : List Int → Int → Int → Option Int
  | [], next, _ => some next
  | n :: r, next, k => if n ≠ next ∨ k ≤ n then none else ordM r (next + 1) k
def refs (body : List Line) : List Int := body.flatMap (·.notes)
def idxM {α : Type} (p : α → Bool) : List α → Int → Int
  | [], _ => -1
  | x :: r, i => if p x then i else idxM p r (i + 1)
theorem idxM_drop {α : Type} (p : α → Bool) (l : List α) (k : Nat) (hk : k < l.length) (i : Int) : idxM p (l.drop k) i = if p l[k] then i else idxM p (l.drop (k + 1)) (i + 1) := by
  rw [List.drop_eq_getElem_cons hk, idxM]
theorem idxM_any {α : Type} (p : α → Bool) : ∀ (l : List α) (i : Int), 0 ≤ i → (0 ≤ idxM p l i ↔ l.any p = true)
  | [], i, _ => by simp [idxM]
  | x :: r, i, h => by
    simp only [idxM, List.any_cons, Bool.or_eq_true]
    split
    · rename_i hp; simp [hp, h]
    · rename_i hp; rw [idxM_any p r (i + 1) (by omega)]; simp [hp]
def chkM (body : List Line) (notes : List (List Line)) (h : Int) : Int :=
  if h < 4 ∨ 100 < h then 5
  else if notes.any (fun x => decide ((x.length : Int) = 0)) then 1
  else match ordM (refs body) 0 notes.length with
    | none => 12
    | some n => if n < notes.length then 3 else 0
theorem refs_drop (body : List Line) (k : Nat) (hk : k < body.length) : refs (body.drop k) = body[k].notes ++ refs (body.drop (k + 1)) := by
  rw [List.drop_eq_getElem_cons hk, refs, List.flatMap_cons]
  rfl
theorem ordM_drop (l : List Int) (j : Nat) (hj : j < l.length) (r : List Int) (next k : Int) : ordM (l.drop j ++ r) next k = if l[j] ≠ next ∨ k ≤ l[j] then none else ordM (l.drop (j + 1) ++ r) (next + 1) k := by
  rw [List.drop_eq_getElem_cons hj, List.cons_append, ordM]
def fitsB (h : Int) (x : Line) (n s q : Int) : Bool :=
  if x.notes = [] then decide (0 < h - n - s - min s 1) else decide (s = q) && decide (3 - min s 1 ≤ h - n - s - min s 1)
def noteAt (notes : List (List Line)) (i : Int) : List Line := (notes[i.toNat]?).getD []
def growM (h n s q : Int) : Int := if 0 < q - s then s + min (q - s) (h - n - s - min s 1 - 1 + min s 1) else s
def fillM (h : Int) (notes : List (List Line)) : List Line → Int → List Line → Int → Int × List Line × Int
  | [], n, q, s => (n, q, s)
  | x :: r, n, q, s =>
    if fitsB h x n s q.length then fillM h notes r (n + 1) (q ++ x.notes.flatMap (noteAt notes)) (growM h (n + 1) s (q ++ x.notes.flatMap (noteAt notes)).length)
    else (n, q, s)
def setM (h : Int) (notes : List (List Line)) : Nat → List Line → List Line → List Pg
  | 0, _, _ => []
  | f + 1, body, q =>
    if body.isEmpty && q.isEmpty then []
    else
      let r := fillM h notes body 0 q (min q.length (h - 1))
      ⟨0, 0, 0, 0, body.take r.1.toNat, r.2.1.take r.2.2.toNat⟩ :: setM h notes f (body.drop r.1.toNat) (r.2.1.drop r.2.2.toNat)
def sumR (notes : List (List Line)) (body : List Line) : Nat := ((refs body).flatMap (noteAt notes)).length
def setAll (h : Int) (body : List Line) (notes : List (List Line)) : List Pg := setM h notes (body.length + sumR notes body + 1) body []
theorem sumR_drop (notes : List (List Line)) (body : List Line) (k : Nat) (hk : k < body.length) : sumR notes (body.drop k) = (body[k].notes.flatMap (noteAt notes)).length + sumR notes (body.drop (k + 1)) := by
  unfold sumR
  rw [refs_drop body k hk, List.flatMap_append, List.length_append]
theorem ordM_range : ∀ (l : List Int) (next k r : Int), ordM l next k = some r → 0 ≤ next → ∀ x ∈ l, 0 ≤ x ∧ x < k
  | [], _, _, _, _, _, x, hx => by cases hx
  | n :: l, next, k, r, h, h0, x, hx => by
    simp only [ordM] at h
    split at h
    · cases h
    · rename_i hn
      have h1 : n = next := by
        apply Classical.byContradiction
        intro hc; exact hn (.inl hc)
      have h2 : ¬ k ≤ n := fun hc => hn (.inr hc)
      rcases List.mem_cons.1 hx with rfl | hx
      · omega
      · exact ordM_range l (next + 1) k r h (by omega) x hx
theorem chk_ok {body : List Line} {notes : List (List Line)} {h : Int} (hc : chkM body notes h = 0) : 4 ≤ h ∧ h ≤ 100 ∧ (∀ x ∈ notes, x ≠ []) ∧ ordM (refs body) 0 notes.length = some (notes.length : Int) := by
  unfold chkM at hc
  split at hc
  · cases hc
  rename_i h1
  split at hc
  · cases hc
  rename_i h2
  split at hc
  · cases hc
  rename_i n hn
  split at hc
  · cases hc
  rename_i h3
  refine ⟨by omega, by omega, fun x hx he => h2 (List.any_eq_true.2 ⟨x, hx, by simp [he]⟩), ?_⟩
  have h4 : ∀ (l : List Int) (next k r : Int), ordM l next k = some r → next ≤ k → r ≤ k := by
    intro l
    induction l with
    | nil => intro next k r h hk; simp [ordM] at h; omega
    | cons a l ih =>
      intro next k r h hk
      simp only [ordM] at h
      split at h
      · cases h
      · rename_i hna
        have h5 : a = next := by
          apply Classical.byContradiction
          intro hc; exact hna (.inl hc)
        have h6 : ¬ k ≤ a := fun hc => hna (.inr hc)
        exact ih (next + 1) k r h (by omega)
  have h7 := h4 _ _ _ _ hn (by omega)
  rw [hn, show n = (notes.length : Int) by omega]
theorem growM_bd (h n s q : Int) (h1 : 0 ≤ s) (h2 : s ≤ q) (h3 : n + s + min s 1 ≤ h) (h4 : s = 0 → 0 < q → n + 2 ≤ h) :
    s ≤ growM h n s q ∧ growM h n s q ≤ q ∧ n + growM h n s q + min (growM h n s q) 1 ≤ h ∧ (growM h n s q = 0 → q = 0) := by
  unfold growM
  split
  · refine ⟨by omega, by omega, by omega, by omega⟩
  · refine ⟨by omega, by omega, by omega, by omega⟩
theorem mem_refs {body : List Line} {k : Nat} (hk : k < body.length) {i : Int} (hi : i ∈ body[k].notes) : i ∈ refs body :=
  List.mem_flatMap.2 ⟨body[k], List.getElem_mem hk, hi⟩
theorem refs_sub {body : List Line} {k : Nat} {i : Int} (h : i ∈ refs (body.drop k)) : i ∈ refs body := by
  obtain ⟨x, hx, hi⟩ := List.mem_flatMap.1 h
  exact List.mem_flatMap.2 ⟨x, List.mem_of_mem_drop hx, hi⟩
theorem flat_take {α β : Type} (f : α → List β) (L : List α) (j : Nat) (hj : j < L.length) : (L.take (j + 1)).flatMap f = (L.take j).flatMap f ++ f L[j] := by
  rw [List.take_succ_eq_append_getElem hj, List.flatMap_append, List.flatMap_singleton]
theorem flat_take_le {α β : Type} (f : α → List β) (L : List α) (j : Nat) : ((L.take j).flatMap f).length ≤ (L.flatMap f).length := by
  have : (L.flatMap f).length = ((L.take j).flatMap f).length + ((L.drop j).flatMap f).length := by
    rw [← List.length_append, ← List.flatMap_append, List.take_append_drop]
  omega
theorem noteAt_get {notes : List (List Line)} {i : Int} (h : i.toNat < notes.length) : noteAt notes i = notes[i.toNat] := by
  simp [noteAt, h]
theorem fits_bd {h n s q : Int} {x : Line} (hb : fitsB h x n s q = true) (h0 : 0 ≤ s) (_hs0 : s = 0 → q = 0) : n + 1 + s + min s 1 ≤ h ∧ (x.notes = [] ∨ n + 3 + s ≤ h) := by
  unfold fitsB at hb
  split at hb
  · rename_i hx
    have := of_decide_eq_true hb
    exact ⟨by omega, .inl hx⟩
  · simp only [Bool.and_eq_true, decide_eq_true_eq] at hb
    exact ⟨by omega, .inr (by omega)⟩
theorem fits_first {h : Int} (x : Line) (hh : 4 ≤ h) : fitsB h x 0 0 0 = true := by
  unfold fitsB
  split
  · exact decide_eq_true (by omega)
  · have : (3 - min (0 : Int) 1 ≤ h - 0 - 0 - min 0 1) := by omega
    simpa using this
end Go.Proofs.YtocoinkhbjlbhaaDoor
end

section
namespace Go.Proofs.YtocoinkhbjlbhaaDoor
open Go Go.RowKit
theorem checkL_c (M : Mut) (v : Value) (l : List Line) (w : World) (hs : SlOf eLine M w v l) :
    CallsV Tryd.prog 71 [v] w (fun u w' => u = .bool (decide ((l.length : Int) = 0)) ∧ w' = w) := by
  refine callsV_of_run Tryd.func71 rfl Tryd.ntmps71 (Nat.le_of_ble_eq_true rfl) ?_
  (repeat (first | refine run_seq ?_ | refine run_region_l ?_ | refine rl_nil ?_ | refine rl_step (by decide) (op_move rfl ?_) | refine rl_step (by decide) (op_assign rfl ?_) | fail))
  refine rl_step (by decide) (op_len uL rfl hs ?_)
  (repeat (first | refine rl_nil ?_ | refine rl_step (by decide) (op_assign rfl ?_) | refine rl_step (by decide) (op_eql rfl rfl ?_) | fail))
  refine run_ret1 Tryd.func71 rfl rfl ?_
  exact ⟨rfl, rfl⟩
theorem indexL_c (M : Mut) (v : Value) (l : List (List Line)) (w : World) (hs : SlOf (eSl eLine) M w v l) :
    CallsV Tryd.prog 88 [v, .func (.func 71) #[] #[]] w (fun u w' => u = .int .i64 (idxM (fun x => decide ((x.length : Int) = 0)) l 0) ∧ w' = w) := by
  have hle := hs.le
  refine callsV_of_run Tryd.func88 rfl Tryd.ntmps88 (Nat.le_of_ble_eq_true rfl) ?_
  (repeat (first | refine run_seq ?_ | refine run_region_l ?_ | refine rl_nil ?_ | refine rl_step (by decide) (op_move rfl ?_) | refine rl_step (by decide) (op_assign rfl ?_) | fail))
  refine rl_step (by decide) (op_len uLL rfl hs ?_)
  (repeat (first | refine rl_nil ?_ | refine rl_step (by decide) (op_move rfl ?_) | refine run_block ?_ | fail))
  refine (run_loop (α := Nat) (fun k => [(0, v), (1, .func (.func 71) #[] #[]), (7, .int .i64 l.length), (8, .int .i64 k)])
    (fun k w' => k ≤ l.length ∧ w' = w ∧ idxM (fun x => decide ((x.length : Int) = 0)) (l.drop k) k = idxM (fun x => decide ((x.length : Int) = 0)) l 0) (fun k => l.length - k) 0 ⟨Nat.zero_le _, rfl, rfl⟩ ?_).sub (by repeat (first | exact trivial | refine ⟨rfl, ?_⟩))
  rintro k w' ⟨hk, rfl, hI⟩ ih
  (repeat (first | refine run_seq ?_ | refine run_region_l ?_ | refine rl_nil ?_ | refine rl_step (by decide) (op_lss rfl rfl ?_) | fail))
  refine run_if rfl (fun hlt => ?_) (fun hlt => ?_)
  · have hk' : k < l.length := by omega
    have hstep := idxM_drop (fun x : List Line => decide ((x.length : Int) = 0)) l k hk' k
    (repeat (first | refine run_seq ?_ | refine run_region_l ?_ | refine rl_nil ?_ | refine rl_step (by decide) (op_move rfl ?_) | refine rl_step (by decide) (op_assign rfl ?_) | refine run_block ?_ | refine run_skip ?_ | fail))
    refine rl_step (by decide) (op_indexAddr uLL teSL rfl rfl hs (by omega) ?_)
    intro ad hn he
    (repeat (first | refine run_seq ?_ | fail))
    refine rl_step (by decide) (op_load teSL rfl he ?_)
    intro u hu
    rw [eSl_V] at hu
    refine rl_step (by decide) (op_callv (cap := []) ent71 rfl rfl (checkL_c M _ _ _ hu) ?_)
    rintro r w1 ⟨rfl, rfl⟩
    (repeat (first | refine rl_nil ?_ | fail))
    simp only [Int.toNat_natCast]
    refine run_if rfl (fun h => ?_) (fun h => ?_)
    · (repeat (first | refine run_seq ?_ | refine run_region_l ?_ | refine rl_nil ?_ | refine rl_step (by decide) (op_move rfl ?_) | refine rl_step (by decide) (op_assign rfl ?_) | fail))
      refine run_ret1 Tryd.func88 rfl rfl ?_
      refine ⟨?_, rfl⟩
      rw [← hI, hstep, if_pos (by simpa using h)]
    · (repeat (first | refine run_region_l ?_ | refine rl_nil ?_ | refine rl_step (by decide) (op_move rfl ?_) | refine run_inBlock ?_ | refine run_skip ?_ | refine rl_step (by decide) (op_add rfl rfl (by omega) ?_) | fail))
      refine (ih (k + 1) _ ⟨by omega, rfl, ?_⟩ (by omega)).sub (by repeat (first | exact trivial | refine ⟨rfl, ?_⟩))
      rw [← hI, hstep, if_neg (by simpa using h)]
      rfl
  · (repeat (first | refine run_seq ?_ | refine run_region_l ?_ | refine rl_nil ?_ | refine rl_step (by decide) (op_assign rfl ?_) | refine run_exit rfl ?_ | fail))
    refine run_ret1 Tryd.func88 rfl rfl ?_
    refine ⟨?_, rfl⟩
    rw [← hI, List.drop_eq_nil_of_le (by omega)]
    rfl
theorem containsL_c (M : Mut) (v : Value) (l : List (List Line)) (w : World) (hs : SlOf (eSl eLine) M w v l) :
    CallsV Tryd.prog 70 [v, .func (.func 71) #[] #[]] w (fun u w' => u = .bool (l.any (fun x => decide ((x.length : Int) = 0))) ∧ w' = w) := by
  have hle := hs.le
  refine callsV_of_run Tryd.func70 rfl Tryd.ntmps70 (Nat.le_of_ble_eq_true rfl) ?_
  (repeat (first | refine run_seq ?_ | refine run_region_l ?_ | refine rl_nil ?_ | refine rl_step (by decide) (op_move rfl ?_) | refine rl_step (by decide) (op_assign rfl ?_) | fail))
  refine rl_step (by decide) (op_call ent88 rfl (indexL_c M _ _ _ hs) ?_)
  rintro r w1 ⟨rfl, rfl⟩
  (repeat (first | refine rl_nil ?_ | refine rl_step (by decide) (op_assign rfl ?_) | refine rl_step (by decide) (op_geq rfl rfl ?_) | fail))
  refine run_ret1 Tryd.func70 rfl rfl ?_
  refine ⟨?_, rfl⟩
  congr 1
  rw [Bool.eq_iff_iff, decide_eq_true_eq]
  exact idxM_any _ l 0 (by omega)
theorem check_c (M : Mut) (vb vn : Value) (body : List Line) (notes : List (List Line)) (h : Int) (w : World) (hm : MB M w) (hb : SlOf eLine M w vb body) (hn : SlOf (eSl eLine) M w vn notes) :
    CallsV Tryd.prog 42 [vb, vn, .int .i64 h] w (fun u w' => u = .int .i64 (chkM body notes h) ∧ Below w.heap.size w w') := by
  have hr := Rn.refl hm
  have hle := hb.le
  have hle2 := hn.le
  unfold chkM
  refine callsV_of_run Tryd.func42 rfl Tryd.ntmps42 (Nat.le_of_ble_eq_true rfl) ?_
  (repeat (first | refine run_seq ?_ | refine run_region_l ?_ | refine rl_nil ?_ | refine rl_step (by decide) (op_move rfl ?_) | refine rl_step (by decide) (op_assign rfl ?_) | refine run_block ?_ | refine rl_step (by decide) (op_lss rfl rfl ?_) | fail))
  refine run_if rfl (fun h1 => ?_) (fun h1 => ?_)
  · (repeat (first | refine run_skip ?_ | fail))
    refine run_yes rfl h1 ?_
    (repeat (first | refine run_seq ?_ | refine run_region_l ?_ | refine rl_nil ?_ | refine rl_step (by decide) (op_assign rfl ?_) | fail))
    refine run_ret1 Tryd.func42 rfl rfl ?_
    exact ⟨by rw [if_pos (Or.inl h1)], Below.refl _ _⟩
  (repeat (first | refine run_region_l ?_ | refine rl_nil ?_ | refine rl_step (by decide) (op_move rfl ?_) | refine rl_step (by decide) (op_assign rfl ?_) | refine rl_step (by decide) (op_gtr rfl rfl ?_) | fail))
  refine run_if rfl (fun h2 => ?_) (fun h2 => ?_)
  · (repeat (first | refine run_seq ?_ | refine run_region_l ?_ | refine rl_nil ?_ | refine rl_step (by decide) (op_assign rfl ?_) | fail))
    refine run_ret1 Tryd.func42 rfl rfl ?_
    exact ⟨by rw [if_pos (Or.inr h2)], Below.refl _ _⟩
  rw [if_neg (by omega)]
  (repeat (first | refine run_seq ?_ | refine run_region_l ?_ | refine rl_step (by decide) (op_move rfl ?_) | fail))
  refine rl_step (by decide) (op_call ent70 rfl (containsL_c M _ _ _ hn) ?_)
  rintro r w1 ⟨rfl, rfl⟩
  (repeat (first | refine rl_nil ?_ | refine rl_step (by decide) (op_assign rfl ?_) | fail))
  refine run_ifb rfl (fun h3 => ?_) (fun h3 => ?_)
  · (repeat (first | refine run_seq ?_ | refine run_region_l ?_ | refine rl_nil ?_ | refine rl_step (by decide) (op_assign rfl ?_) | fail))
    refine run_ret1 Tryd.func42 rfl rfl ?_
    exact ⟨by rw [if_pos h3], Below.refl _ _⟩
  rw [h3]
  simp only [Bool.false_eq_true, if_false]
  (repeat (first | refine run_seq ?_ | refine run_region_l ?_ | refine rl_nil ?_ | refine rl_step (by decide) (op_move rfl ?_) | refine rl_step (by decide) (op_assign rfl ?_) | refine run_inBlock ?_ | refine run_skip ?_ | fail))
  refine rl_step (by decide) (op_len uL rfl hb ?_)
  (repeat (first | refine rl_nil ?_ | refine rl_step (by decide) (op_move rfl ?_) | refine run_block ?_ | fail))
  refine (run_loop (α := Nat × Int × Mut) (fun x => [(0, vb), (1, vn), (7, .int .i64 x.2.1), (20, vb), (21, .int .i64 body.length), (22, .int .i64 x.1)])
    (fun x w' => x.1 ≤ body.length ∧ 0 ≤ x.2.1 ∧ x.2.1 ≤ notes.length ∧ Rn M w1 x.2.2 w' ∧ SlOf eLine x.2.2 w' vb body ∧ SlOf (eSl eLine) x.2.2 w' vn notes ∧ ordM (refs (body.drop x.1)) x.2.1 notes.length = ordM (refs body) 0 notes.length)
    (fun x => body.length - x.1) (0, 0, M) ⟨Nat.zero_le _, Int.le_refl _, by simp, hr, hb, hn, rfl⟩ ?_).sub (by repeat (first | exact trivial | refine ⟨rfl, ?_⟩))
  clear hb hn hr
  rintro ⟨k, next, M1⟩ w2 ⟨hk, hn0, hn1, hr, hb, hn, hI⟩ ih
  simp only at hk hn0 hn1 hr hb hn hI ih
  (repeat (first | refine run_seq ?_ | refine run_region_l ?_ | refine rl_nil ?_ | refine rl_step (by decide) (op_lss rfl rfl ?_) | fail))
  refine run_if rfl (fun hlt => ?_) (fun hlt => ?_)
  · have hk' : k < body.length := by omega
    rw [refs_drop body k hk'] at hI
    (repeat (first | refine run_seq ?_ | refine run_region_l ?_ | refine run_block ?_ | refine run_skip ?_ | fail))
    refine rl_step (by decide) (op_indexAddr uL teL rfl rfl hb (by omega) ?_)
    intro ad hn' he
    refine rl_step (by decide) (op_load teL rfl he ?_)
    intro u hu
    rw [eLine_V] at hu
    simp only [Int.toNat_natCast] at hu
    refine rl_step (by decide) (op_alloc 9 hr tdL ?_)
    intro b w3 M2 hbge hbox hs
    replace hb := hb.mono hs.x
    replace hn := hn.mono hs.x
    obtain ⟨g, n, rfl, hu1, hu2, hu3, hu4⟩ := hu
    replace hu3 := hu3.mono hs.x
    replace hu4 := hu4.mono hs.x
    replace hr := hr.up hs
    clear hs
    refine rl_step0 (op_store tdL rfl rfl rfl (eLine.one (eLine_R.2 ⟨g, n, rfl, hu1, hu2, hu3, hu4⟩)) rfl hr hbge hbox (Nat.le_of_ble_eq_true rfl) ?_)
    intro w4 hbox hs
    replace hb := hb.mono hs.x
    replace hn := hn.mono hs.x
    replace hu4 := hu4.mono hs.x
    replace hr := hr.st hs
    clear hs hu3
    (repeat (first | refine run_seq ?_ | refine run_region_l ?_ | refine rl_nil ?_ | fail))
    refine rl_step (by decide) (op_fieldBox fdL3 rfl ?_)
    refine rl_step (by decide) (op_load1 tdSI rfl hbox rfl ?_)
    refine rl_step (by decide) (op_len uI rfl hu4 ?_)
    (repeat (first | refine rl_nil ?_ | refine rl_step (by decide) (op_move rfl ?_) | refine run_block ?_ | fail))
    refine (run_loop (α := Nat × Int) (fun x => [(0, vb), (1, vn), (7, .int .i64 x.2), (20, vb), (21, .int .i64 body.length), (22, .int .i64 k), (27, n), (28, .int .i64 body[k].notes.length), (29, .int .i64 x.1)])
      (fun x w' => x.1 ≤ body[k].notes.length ∧ 0 ≤ x.2 ∧ x.2 ≤ notes.length ∧ w' = w4 ∧ ordM (body[k].notes.drop x.1 ++ refs (body.drop (k + 1))) x.2 notes.length = ordM (refs body) 0 notes.length)
      (fun x => body[k].notes.length - x.1) (0, next) ⟨Nat.zero_le _, hn0, hn1, rfl, hI⟩ ?_).sub (by repeat (first | exact trivial | refine ⟨rfl, ?_⟩))
    clear hI hn0 hn1
    have hle3 := hu4.le
    rintro ⟨j, nx⟩ w5 ⟨hj, hn0, hn1, rfl, hI⟩ ih2
    simp only at hj hn0 hn1 hI ih2
    (repeat (first | refine run_seq ?_ | refine run_region_l ?_ | refine rl_nil ?_ | refine rl_step (by decide) (op_lss rfl rfl ?_) | fail))
    refine run_if rfl (fun hlt2 => ?_) (fun hlt2 => ?_)
    · have hj' : j < body[k].notes.length := by omega
      rw [ordM_drop _ j hj'] at hI
      (repeat (first | refine run_seq ?_ | refine run_region_l ?_ | refine run_block ?_ | refine run_skip ?_ | fail))
      refine rl_step (by decide) (op_indexAddr uI teI rfl rfl hu4 (by omega) ?_)
      intro ad2 hn2 he2
      refine rl_step (by decide) (op_load teI rfl he2 ?_)
      intro u hu
      rw [eI_V] at hu
      obtain ⟨rfl, hu5⟩ := hu
      simp only [Int.toNat_natCast]
      (repeat (first | refine run_seq ?_ | refine run_region_l ?_ | refine rl_nil ?_ | refine rl_step (by decide) (op_move rfl ?_) | refine rl_step (by decide) (op_assign rfl ?_) | refine rl_step (by decide) (op_neq rfl rfl ?_) | fail))
      refine rl_part 36 rfl (fun h5 => ?_) (fun h5 => ?_)
      · (repeat (first | refine run_seq ?_ | refine run_region_l ?_ | refine rl_nil ?_ | refine rl_step (by decide) (op_assign rfl ?_) | refine run_true rfl ?_ | refine rl_no rfl rfl rfl (by decide) ?_ | refine rl_step (by decide) (op_pick_t rfl rfl ?_) | fail))
        refine run_ret1 Tryd.func42 rfl rfl ?_
        rw [if_pos (Or.inl h5)] at hI
        rw [← hI]
        exact ⟨rfl, hr.bel⟩
      · (repeat (first | refine rl_step (by decide) (op_move rfl ?_) | refine rl_yes rfl rfl ?_ | fail))
        refine rl_step (by decide) (op_len uLL rfl hn ?_)
        (repeat (first | refine rl_nil ?_ | refine rl_yes rfl rfl ?_ | refine rl_step (by decide) (op_pick_f rfl rfl ?_) | refine rl_step (by decide) (op_geq rfl rfl ?_) | fail))
        refine run_if rfl (fun h6 => ?_) (fun h6 => ?_)
        · (repeat (first | refine run_seq ?_ | refine run_region_l ?_ | refine rl_nil ?_ | refine rl_step (by decide) (op_assign rfl ?_) | fail))
          refine run_ret1 Tryd.func42 rfl rfl ?_
          rw [if_pos (Or.inr h6)] at hI
          rw [← hI]
          exact ⟨rfl, hr.bel⟩
        · rw [if_neg (by intro h; rcases h with h | h; exact h5 h; exact h6 h)] at hI
          (repeat (first | refine run_region_l ?_ | refine rl_nil ?_ | refine rl_step (by decide) (op_move rfl ?_) | refine rl_step (by decide) (op_assign rfl ?_) | refine run_inBlock ?_ | refine run_skip ?_ | refine rl_step (by decide) (op_add rfl rfl (by omega) ?_) | fail))
          exact (ih2 (j + 1, nx + 1) _ ⟨by show j + 1 ≤ _; omega, by show 0 ≤ nx + 1; omega, by show nx + 1 ≤ _; omega, rfl, hI⟩ (by show _ - (j + 1) < _ - j; omega)).sub (by repeat (first | exact trivial | refine ⟨rfl, ?_⟩))
    · rw [List.drop_eq_nil_of_le (by omega), List.nil_append] at hI
      (repeat (first | refine run_region_l ?_ | refine rl_nil ?_ | refine rl_step (by decide) (op_move rfl ?_) | refine run_inBlock ?_ | refine run_exit rfl ?_ | refine rl_step (by decide) (op_add rfl rfl (by omega) ?_) | fail))
      exact (ih (k + 1, nx, _) _ ⟨by show k + 1 ≤ _; omega, hn0, hn1, hr, hb, hn, hI⟩ (by show _ - (k + 1) < _ - k; omega)).sub (by repeat (first | exact trivial | refine ⟨rfl, ?_⟩))
  · rw [List.drop_eq_nil_of_le (by omega)] at hI
    simp only [refs, List.flatMap_nil, ordM] at hI
    rw [show ordM (refs body) 0 notes.length = some next from hI.symm]
    (repeat (first | refine run_seq ?_ | refine run_region_l ?_ | refine rl_step (by decide) (op_move rfl ?_) | refine run_exit rfl ?_ | fail))
    refine rl_step (by decide) (op_len uLL rfl hn ?_)
    (repeat (first | refine rl_nil ?_ | refine rl_step (by decide) (op_lss rfl rfl ?_) | fail))
    refine run_if rfl (fun h6 => ?_) (fun h6 => ?_)
    · (repeat (first | refine run_seq ?_ | refine run_region_l ?_ | refine rl_nil ?_ | refine rl_step (by decide) (op_assign rfl ?_) | fail))
      refine run_ret1 Tryd.func42 rfl rfl ?_
      exact ⟨by simp only [if_pos h6], hr.bel⟩
    · (repeat (first | refine run_seq ?_ | refine run_region_l ?_ | refine rl_nil ?_ | refine rl_step (by decide) (op_assign rfl ?_) | refine run_skip ?_ | fail))
      refine run_ret1 Tryd.func42 rfl rfl ?_
      exact ⟨by simp only [if_neg h6], hr.bel⟩
end Go.Proofs.YtocoinkhbjlbhaaDoor
end

section
namespace Go.Proofs.YtocoinkhbjlbhaaDoor
open Go Go.RowKit
theorem cloneI_c (M : Mut) (v : Value) (l : List Int) (w : World) (hm : MB M w) (hs : SlOf eI M w v l) :
    CallsV Tryd.prog 72 [v] w (fun u w' => Below w.heap.size w w' ∧ SlOf eI M w' u l) := by
  have hr := Rn.refl hm
  have hby := hs.bytes
  refine callsV_of_run Tryd.func72 rfl Tryd.ntmps72 (Nat.le_of_ble_eq_true rfl) ?_
  (repeat (first | refine run_seq ?_ | refine run_region_l ?_ | refine rl_nil ?_ | refine rl_step (by decide) (op_move rfl ?_) | refine rl_step (by decide) (op_assign rfl ?_) | fail))
  refine rl_step (by decide) (op_eqlNil uI rfl rfl hs ?_)
  intro b hb
  (repeat (first | refine rl_nil ?_ | fail))
  refine run_ifb rfl (fun h => ?_) (fun h => ?_)
  · (repeat (first | refine run_seq ?_ | refine run_region_l ?_ | refine rl_nil ?_ | refine rl_step (by decide) (op_assign rfl ?_) | fail))
    refine run_ret1 Tryd.func72 rfl rfl ?_
    rw [hb h]
    exact ⟨Below.refl _ _, SlOf.nil _ _ _⟩
  · (repeat (first | refine run_seq ?_ | refine run_region_l ?_ | refine run_skip ?_ | fail))
    refine rl_step (by decide) (op_buildSlice (E := eI) (n := 0) (parts := []) (vs := []) (l := []) uI teI hr rfl rfl trivial rfl ⟨by decide, by decide⟩ ?_)
    intro u w1 hu1 hu2 hb1
    have hst := hr.step hb1
    replace hs := hs.mono hst.x
    replace hr := hr.st hst
    (repeat (first | refine rl_step (by decide) (op_move rfl ?_) | fail))
    have hg : Grow w.heap.size M w1 u 0 1 1 3 := ⟨.inl hu2⟩
    refine rl_step (by decide) (op_append (E := eI) (tag := 1) uI teI rfl rfl hr hu1 hg hs (by simpa using hby) ?_)
    intro u' w2 M2 hu' hg' hst2
    replace hr := hr.st hst2
    (repeat (first | refine rl_nil ?_ | refine rl_step (by decide) (op_assign rfl ?_) | fail))
    refine run_ret1 Tryd.func72 rfl rfl ?_
    exact ⟨hr.bel, hu'.mono hr.fin⟩
theorem clone_c (M : Mut) (v : Value) (l : List Line) (w : World) (hm : MB M w) (hs : SlOf eLine M w v l) :
    CallsV Tryd.prog 45 [v] w (fun u w' => Below w.heap.size w w' ∧ SlOf eLine M w' u l) := by
  have hr := Rn.refl hm
  have hby := hs.bytes
  have hle := hs.le
  refine callsV_of_run Tryd.func45 rfl Tryd.ntmps45 (Nat.le_of_ble_eq_true rfl) ?_
  (repeat (first | refine run_seq ?_ | refine run_region_l ?_ | refine rl_nil ?_ | refine rl_step (by decide) (op_move rfl ?_) | refine rl_step (by decide) (op_assign rfl ?_) | fail))
  refine rl_step (by decide) (op_len uL rfl hs ?_)
  (repeat (first | refine rl_nil ?_ | refine rl_step (by decide) (op_eql rfl rfl ?_) | fail))
  refine run_if rfl (fun h => ?_) (fun h => ?_)
  · (repeat (first | refine run_seq ?_ | refine run_region_l ?_ | refine rl_nil ?_ | refine rl_step (by decide) (op_assign rfl ?_) | fail))
    refine run_ret1 Tryd.func45 rfl rfl ?_
    rw [List.eq_nil_of_length_eq_zero (l := l) (by omega)]
    exact ⟨Below.refl _ _, SlOf.nil _ _ _⟩
  · (repeat (first | refine run_seq ?_ | refine run_region_l ?_ | refine rl_step (by decide) (op_move rfl ?_) | refine run_skip ?_ | fail))
    refine rl_step (by decide) (op_len uL rfl hs ?_)
    refine rl_step (by decide) (op_make 3 uL tdL rfl rfl hr (by omega) (by rw [Nat.mul_comm]; exact hby) (by omega) ?_)
    intro b w1 M1 hB hbox hs1
    replace hs := hs.mono hs1.x
    replace hr := hr.up hs1
    simp only [Int.toNat_natCast] at hbox ⊢
    (repeat (first | refine run_seq ?_ | refine run_region_l ?_ | refine rl_nil ?_ | refine rl_step (by decide) (op_move rfl ?_) | refine rl_step (by decide) (op_assign rfl ?_) | fail))
    refine rl_step (by decide) (op_copy (E := eLine) uL teL rfl rfl hr hB hs hbox (by simp [madeCells]; rfl) ?_)
    intro w2 css hcss hbox hst
    replace hs := hs.mono hst.x
    replace hr := hr.st hst
    (repeat (first | refine run_seq ?_ | refine run_region_l ?_ | refine rl_nil ?_ | refine rl_step (by decide) (op_move rfl ?_) | fail))
    refine rl_step (by decide) (op_lenv uL rfl ?_)
    (repeat (first | refine rl_nil ?_ | refine rl_step (by decide) (op_move rfl ?_) | refine run_block ?_ | fail))
    clear hs1 hst
    refine (run_loop (α := Nat × Mut × List Value) (fun x => [(0, v), (3, .slice (some ⟨b, 0, none⟩) l.length l.length), (15, .int .i64 l.length), (16, .int .i64 x.1)])
      (fun x w' => x.1 ≤ l.length ∧ Rn M w x.2.1 w' ∧ SlOf eLine x.2.1 w' v l ∧ CSS eLine x.2.1 w' x.2.2 l ∧ Box x.2.1 w' b 3 x.2.2 42) (fun x => l.length - x.1) (0, M1, css) ⟨Nat.zero_le _, hr, hs, hcss, hbox⟩ ?_).sub (by repeat (first | exact trivial | refine ⟨rfl, ?_⟩))
    clear hr hs hcss hbox
    rintro ⟨k, M2, css⟩ w3 ⟨hk, hr, hs, hcss, hbox⟩ ih
    simp only at hk hr hs hcss hbox ih
    (repeat (first | refine run_seq ?_ | refine run_region_l ?_ | refine rl_nil ?_ | refine rl_step (by decide) (op_lss rfl rfl ?_) | fail))
    refine run_if rfl (fun hlt => ?_) (fun hlt => ?_)
    · have hk' : k < l.length := by omega
      (repeat (first | refine run_seq ?_ | refine run_region_l ?_ | refine rl_nil ?_ | refine rl_step (by decide) (op_move rfl ?_) | refine rl_step (by decide) (op_assign rfl ?_) | refine run_block ?_ | refine run_skip ?_ | fail))
      refine region_dr (M := M2) 16 6 [2, 3] mixed rfl (by kernel_rfl) (fun w1 hs1 => ?_)
      replace hs := hs.mono hs1.x
      replace hcss := hcss.mono hs1.x
      replace hr := hr.up hs1
      replace hbox := hbox.up hs1
      refine dr_cons (isv _) (by decide) (mono_isv _) (ob0 rfl fun M w hs => opg (op_move rfl ⟨_, UpM.refl _ _, rfl⟩)) ?_
      refine dr_cons (isv _) (by decide) (mono_isv _) (ob0 rfl fun M w hs => opg (op_move rfl ⟨_, UpM.refl _ _, rfl⟩)) ?_
      refine dr_cons (isv _) (by decide) (mono_isv _) (ob0 rfl fun M w hs => opg (op_move rfl ⟨_, UpM.refl _ _, rfl⟩)) ?_
      refine dr_cons (isv _) (by decide) (mono_isv _) (ob0 rfl fun M w hs => opg (op_move rfl ⟨_, UpM.refl _ _, rfl⟩)) ?_
      refine dr_cons (isv _) (by decide) (mono_isv _) (ob0 rfl fun M w hs => opg (op_move rfl ⟨_, UpM.refl _ _, rfl⟩)) ?_
      refine dr_cons (isv _) (by decide) (mono_isv _) (ob0 rfl fun M w hs => opg (op_move rfl ⟨_, UpM.refl _ _, rfl⟩)) ?_
      refine dr_cons (isPtr eLine l[k]) (by decide) (mono_isPtr _ _) (ob2 rfl fun M w' hs2 v1 h1 v2 h2 => ?_) ?_
      · cases h1; cases h2
        replace hs := hs.mono hs2.x
        refine opg (op_indexAddr uL teL rfl rfl hs (by omega) ?_)
        intro ad hn he
        exact ⟨_, UpM.refl _ _, ad, rfl, he⟩
      refine dr_cons (isPtr (eSl eI) l[k].gaps) (by decide) (mono_isPtr _ _) (ob1 rfl fun M w' hs2 v1 h1 => ?_) ?_
      · obtain ⟨ad, rfl, he⟩ := h1
        exact opg (op_fieldAddr fdL2 rfl ⟨_, UpM.refl _ _, _, rfl, he.line.2.2.1⟩)
      refine dr_cons (isSl eI l[k].gaps) (by decide) (mono_isSl _ _) (ob1 rfl fun M w' hs2 v1 h1 => ?_) ?_
      · obtain ⟨ad, rfl, he⟩ := h1
        exact opg (op_load teSI rfl he fun u hu => ⟨_, UpM.refl _ _, eSl_V.1 hu⟩)
      refine dr_cons (isSl eI l[k].gaps) (by decide) (mono_isSl _ _) (ob1 rfl fun M w' hs2 v1 h1 => ?_) ?_
      · exact opg (op_call ent72 rfl (cloneI_c M _ _ _ (hs2.mb hr.mb) h1) fun u w2 hu => ⟨_, UpM.of_below hu.1, hu.2⟩)
      refine dr_cons (isv _) (by decide) (mono_isv _) (ob0 rfl fun M w hs => opg (op_move rfl ⟨_, UpM.refl _ _, rfl⟩)) ?_
      refine dr_cons (isv _) (by decide) (mono_isv _) (ob0 rfl fun M w hs => opg (op_move rfl ⟨_, UpM.refl _ _, rfl⟩)) ?_
      refine dr_cons (isPtr eLine l[k]) (by decide) (mono_isPtr _ _) (ob2 rfl fun M w' hs2 v1 h1 v2 h2 => ?_) ?_
      · cases h1; cases h2
        replace hs := hs.mono hs2.x
        refine opg (op_indexAddr uL teL rfl rfl hs (by omega) ?_)
        intro ad hn he
        exact ⟨_, UpM.refl _ _, ad, rfl, he⟩
      refine dr_cons (isPtr (eSl eI) l[k].notes) (by decide) (mono_isPtr _ _) (ob1 rfl fun M w' hs2 v1 h1 => ?_) ?_
      · obtain ⟨ad, rfl, he⟩ := h1
        exact opg (op_fieldAddr fdL3 rfl ⟨_, UpM.refl _ _, _, rfl, he.line.2.2.2⟩)
      refine dr_cons (isSl eI l[k].notes) (by decide) (mono_isSl _ _) (ob1 rfl fun M w' hs2 v1 h1 => ?_) ?_
      · obtain ⟨ad, rfl, he⟩ := h1
        exact opg (op_load teSI rfl he fun u hu => ⟨_, UpM.refl _ _, eSl_V.1 hu⟩)
      refine dr_cons (isSl eI l[k].notes) (by decide) (mono_isSl _ _) (ob1 rfl fun M w' hs2 v1 h1 => ?_) ?_
      · exact opg (op_call ent72 rfl (cloneI_c M _ _ _ (hs2.mb hr.mb) h1) fun u w2 hu => ⟨_, UpM.of_below hu.1, hu.2⟩)
      refine dr_nil rfl (fun M3 w4 val hs2 hall => ?_)
      obtain ⟨h34, _, _, _, _, _, h28, _, _, _, _, _, h22, h21, h20, h19, _⟩ := hall
      have e22 : val 22 = _ := h22; have e21 : val 21 = _ := h21; have e20 : val 20 = _ := h20; have e19 : val 19 = _ := h19
      replace hs := hs.mono hs2.x
      replace hcss := hcss.mono hs2.x
      replace hr := hr.up hs2
      replace hbox := hbox.up hs2
      have hlen := hcss.len
      have hk4 : k * 4 + 4 ≤ css.length := by rw [hlen]; show k * 4 + 4 ≤ l.length * 4; omega
      refine RT.sub (fr' := [(0, v), (3, .slice (some ⟨b, 0, none⟩) l.length l.length), (15, .int .i64 l.length), (16, .int .i64 k), (34, val 34), (28, val 28), (22, val 22), (21, val 21), (20, val 20), (19, val 19)]) ?_ (by repeat (first | exact trivial | refine ⟨rfl, ?_⟩))
      rw [e22, e21, e20, e19]
      generalize val 34 = v34 at h34
      generalize val 28 = v28 at h28
      refine rt_one (i := 16) (by kernel_rfl) rfl (by decide) (op_indexBox uL tdL rfl rfl hbox (by show 0 ≤ (k : Int) ∧ (k : Int) < l.length; omega) ?_)
      refine rt_one (i := 17) (by kernel_rfl) rfl (by decide) (op_fieldBox fdL2 rfl ?_)
      obtain ⟨a28, c28, q28, _⟩ := SlOf.ex h28
      obtain ⟨a34, c34, q34, _⟩ := SlOf.ex h34
      refine rt_one0 (i := 18) (by kernel_rfl) rfl (op_store (c := [v28]) tdSI rfl rfl (by rw [q28]; rfl) (by rw [q28]; simp [Value.oneCell']) rfl hr hB hbox (by simp; omega) ?_)
      simp only [Int.toNat_natCast]
      intro w5 hbox hst
      replace hs := hs.mono hst.x
      replace hcss := hcss.mono hst.x
      replace h28 := h28.mono hst.x
      replace h34 := h34.mono hst.x
      replace hr := hr.st hst
      clear hst
      have hcss := hcss.update k hk' 2 [v28] l[k] (fun cs hR => line_gaps hR h28) (Nat.le_of_ble_eq_true rfl)
      rw [List.set_getElem_self, show k * eLine.sz + 2 = k * 4 + 2 from rfl] at hcss
      generalize splice css (k * 4 + 2) [v28] = css at hcss hbox
      have hlen := hcss.len
      have hk4 : k * 4 + 4 ≤ css.length := by rw [hlen]; show k * 4 + 4 ≤ l.length * 4; omega
      refine rt_one (i := 19) (by kernel_rfl) rfl (by decide) (op_indexBox uL tdL rfl rfl hbox (by show 0 ≤ (k : Int) ∧ (k : Int) < l.length; omega) ?_)
      refine rt_one (i := 20) (by kernel_rfl) rfl (by decide) (op_fieldBox fdL3 rfl ?_)
      refine rt_one0 (i := 21) (by kernel_rfl) rfl (op_store (c := [v34]) tdSI rfl rfl (by rw [q34]; rfl) (by rw [q34]; simp [Value.oneCell']) rfl hr hB hbox (by simp; omega) ?_)
      simp only [Int.toNat_natCast]
      intro w6 hbox hst
      replace hs := hs.mono hst.x
      replace hcss := hcss.mono hst.x
      replace h34 := h34.mono hst.x
      replace hr := hr.st hst
      clear hst
      have hcss := hcss.update k hk' 3 [v34] l[k] (fun cs hR => line_notes hR h34) (Nat.le_of_ble_eq_true rfl)
      rw [List.set_getElem_self, show k * eLine.sz + 3 = k * 4 + 3 from rfl] at hcss
      refine rt_nil (by kernel_rfl) ?_
      (repeat (first | refine run_region_l ?_ | refine rl_nil ?_ | refine rl_step (by decide) (op_move rfl ?_) | refine run_inBlock ?_ | refine rl_step (by decide) (op_add rfl rfl (by omega) ?_) | fail))
      exact (ih (k + 1, M3, _) _ ⟨by show k + 1 ≤ _; omega, hr, hs, hcss, hbox⟩ (by show _ - (k + 1) < _ - k; omega)).sub (by repeat (first | exact trivial | refine ⟨rfl, ?_⟩))
    · (repeat (first | refine run_seq ?_ | refine run_region_l ?_ | refine rl_nil ?_ | refine rl_step (by decide) (op_move rfl ?_) | refine rl_step (by decide) (op_assign rfl ?_) | refine run_exit rfl ?_ | fail))
      refine run_ret1 Tryd.func45 rfl rfl ?_
      obtain ⟨hsl, hst⟩ := hbox.freeze hcss hby hB
      exact ⟨hr.bel, hsl.mono (hr.st hst).fin⟩
end Go.Proofs.YtocoinkhbjlbhaaDoor
end

section
namespace Go.Proofs.YtocoinkhbjlbhaaDoor
open Go Go.RowKit
abbrev ptr (b : Nat) : Value := .pointer (some ⟨b, 0, none⟩)
theorem room_c (M : Mut) (w : World) (bh bl bs th tl ts : Nat) (h n s : Int) (hh : Box M w bh th [.int .i64 h] 3) (hl : Box M w bl tl [.int .i64 n] 3) (hs : Box M w bs ts [.int .i64 s] 3)
    (h1 : 0 ≤ h ∧ h ≤ 1000) (h2 : 0 ≤ n ∧ n ≤ 1000) (h3 : 0 ≤ s ∧ s ≤ 1000) :
    CallsV Tryd.prog 43 [ptr bh, ptr bl, ptr bs] w (fun u w' => u = .int .i64 (h - n - s - min s 1) ∧ w' = w) := by
  refine callsV_of_run Tryd.func43 rfl Tryd.ntmps43 (Nat.le_of_ble_eq_true rfl) ?_
  (repeat (first | refine run_seq ?_ | refine run_region_l ?_ | refine rl_nil ?_ | refine rl_step (by decide) (op_assign rfl ?_) | fail))
  refine rl_step (by decide) (op_load1 tdI rfl hh rfl ?_)
  refine rl_step (by decide) (op_load1 tdI rfl hl rfl ?_)
  (repeat (first | refine rl_step (by decide) (op_sub rfl rfl (by omega) ?_) | fail))
  refine rl_step (by decide) (op_load1 tdI rfl hs rfl ?_)
  (repeat (first | refine rl_step (by decide) (op_sub rfl rfl (by omega) ?_) | fail))
  refine rl_step (by decide) (op_load1 tdI rfl hs rfl ?_)
  (repeat (first | refine rl_nil ?_ | refine rl_step (by decide) (op_assign rfl ?_) | refine rl_step (by decide) (op_min rfl rfl ?_) | refine rl_step (by decide) (op_sub rfl rfl (by omega) ?_) | fail))
  refine run_ret1 Tryd.func43 rfl rfl ?_
  exact ⟨rfl, rfl⟩
structure Vars (M : Mut) (w : World) (bb bh bq bl bs br : Nat) (vb vq : Value) (h n s : Int) : Prop where
  body : Box M w bb 3 [vb] 33
  height : Box M w bh 5 [.int .i64 h] 3
  queue : Box M w bq 10 [vq] 33
  lines : Box M w bl 11 [.int .i64 n] 3
  shown : Box M w bs 12 [.int .i64 s] 3
  room : Box M w br 13 [.func (.func 43) #[] #[ptr bh, ptr bl, ptr bs]] 76
theorem Vars.up {M M' : Mut} {w w' : World} {bb bh bq bl bs br : Nat} {vb vq : Value} {h n s : Int} (k : Vars M w bb bh bq bl bs br vb vq h n s) (hs : UpM M w M' w') : Vars M' w' bb bh bq bl bs br vb vq h n s :=
  ⟨k.body.up hs, k.height.up hs, k.queue.up hs, k.lines.up hs, k.shown.up hs, k.room.up hs⟩
theorem tdF : TD Tryd.prog 76 1 8 false [.nilFunc] := TD.mk' (z := .nilFunc) (by kernel_rfl) Tryd.underlying76 rfl
theorem fits_c (M : Mut) (w : World) (bb bh bq bl bs br : Nat) (vb vq : Value) (h n s : Int) (body q : List Line) (hv : Vars M w bb bh bq bl bs br vb vq h n s) (hb : SlOf eLine M w vb body) (hq : SlOf eLine M w vq q)
    (h1 : 0 ≤ h ∧ h ≤ 1000) (h2 : 0 ≤ n ∧ n ≤ 1000) (h3 : 0 ≤ s ∧ s ≤ 1000) (hn : n ≤ body.length) :
    CallsV Tryd.prog 44 [ptr bl, ptr bb, ptr br, ptr bs, ptr bq] w (fun u w' => u = .bool (match body[n.toNat]? with | none => false | some x => fitsB h x n s q.length) ∧ Below w.heap.size w w') := by
  refine callsV_of_run Tryd.func44 rfl Tryd.ntmps44 (Nat.le_of_ble_eq_true rfl) ?_
  (repeat (first | refine run_seq ?_ | refine run_region_l ?_ | refine rl_nil ?_ | refine rl_step (by decide) (op_assign rfl ?_) | refine run_block ?_ | fail))
  refine rl_step (by decide) (op_load1 tdI rfl hv.lines rfl ?_)
  refine rl_step (by decide) (op_load1 tdSL rfl hv.body rfl ?_)
  refine rl_step (by decide) (op_len uL rfl hb ?_)
  (repeat (first | refine rl_nil ?_ | refine rl_step (by decide) (op_assign rfl ?_) | refine rl_step (by decide) (op_eql rfl rfl ?_) | fail))
  refine run_if rfl (fun hc => ?_) (fun hc => ?_)
  · (repeat (first | refine run_seq ?_ | refine run_region_l ?_ | refine rl_nil ?_ | refine rl_step (by decide) (op_assign rfl ?_) | fail))
    refine run_ret1 Tryd.func44 rfl rfl ?_
    rw [List.getElem?_eq_none (by omega)]
    exact ⟨rfl, Below.refl _ _⟩
  have hlt : n.toNat < body.length := by omega
  rw [List.getElem?_eq_getElem hlt]
  simp only [fitsB]
  (repeat (first | refine run_seq ?_ | refine run_region_l ?_ | fail))
  refine rl_step (by decide) (op_load1 tdSL rfl hv.body rfl ?_)
  refine rl_step (by decide) (op_load1 tdI rfl hv.lines rfl ?_)
  refine rl_step (by decide) (op_indexAddr uL teL rfl rfl hb (by omega) ?_)
  intro ad _ he
  refine rl_step (by decide) (op_fieldAddr fdL3 rfl ?_)
  refine rl_step (by decide) (op_load teSI rfl he.line.2.2.2 ?_)
  intro u hu
  rw [eSl_V] at hu
  refine rl_step (by decide) (op_len uI rfl hu ?_)
  (repeat (first | refine rl_nil ?_ | refine rl_step (by decide) (op_assign rfl ?_) | refine rl_step (by decide) (op_eql rfl rfl ?_) | fail))
  refine run_if rfl (fun hc2 => ?_) (fun hc2 => ?_)
  · rw [if_pos (List.eq_nil_of_length_eq_zero (by omega))]
    (repeat (first | refine run_seq ?_ | refine run_region_l ?_ | fail))
    refine rl_step (by decide) (op_load1 tdF rfl hv.room rfl ?_)
    refine rl_step (by decide) (op_callv (cap := [ptr bh, ptr bl, ptr bs]) ent43 rfl rfl (room_c M w bh bl bs 5 11 12 h n s hv.height hv.lines hv.shown h1 h2 h3) ?_)
    rintro r w1 ⟨rfl, rfl⟩
    (repeat (first | refine rl_nil ?_ | refine rl_step (by decide) (op_assign rfl ?_) | refine rl_step (by decide) (op_gtr rfl rfl ?_) | fail))
    refine run_ret1 Tryd.func44 rfl rfl ?_
    exact ⟨rfl, Below.refl _ _⟩
  · rw [if_neg (fun hc => hc2 (by rw [hc]; rfl))]
    (repeat (first | refine run_seq ?_ | refine run_inBlock ?_ | refine run_skip ?_ | fail))
    by_cases hsq : s = q.length
    · refine region_dr (M := M) 12 1 [] mixed rfl (by kernel_rfl) (fun w1 hs1 => ?_)
      replace hq := hq.mono hs1.x
      replace hv := hv.up hs1
      refine dr_cons (isv (.int .i64 s)) (by decide) (mono_isv _) (ob0 rfl fun M w' hs => opg (op_load1 tdI rfl (hv.up hs).shown rfl ⟨_, UpM.refl _ _, rfl⟩)) ?_
      refine dr_cons (isv vq) (by decide) (mono_isv _) (ob0 rfl fun M w' hs => opg (op_load1 tdSL rfl (hv.up hs).queue rfl ⟨_, UpM.refl _ _, rfl⟩)) ?_
      refine dr_cons (isv (.int .i64 q.length)) (by decide) (mono_isv _) (ob1 rfl fun M w' hs v1 h1 => ?_) ?_
      · cases h1; exact opg (op_len uL rfl (hq.mono hs.x) ⟨_, UpM.refl _ _, rfl⟩)
      refine dr_cons (isv (.bool true)) (by decide) (mono_isv _) (ob2 rfl fun M w' hs v1 h1 v2 h2 => ?_) ?_
      · cases h1; cases h2; exact opg (op_eql rfl rfl ⟨_, UpM.refl _ _, by rw [decide_eq_true hsq]; rfl⟩)
      refine dr_cons (isv (.bool true)) (by decide) (mono_isv _) (ob1 rfl fun M w' hs v1 h1 => ?_) ?_
      · cases h1; exact opg (op_move rfl ⟨_, UpM.refl _ _, rfl⟩)
      refine dr_cons (isv (.func (.func 43) #[] #[ptr bh, ptr bl, ptr bs])) (by decide) (mono_isv _) (ob1 rfl fun M w' hs v1 h1 => ?_) ?_
      · cases h1; exact opg_yes rfl rfl (op_load1 tdF rfl (hv.up hs).room rfl ⟨_, UpM.refl _ _, rfl⟩)
      refine dr_cons (isv (.int .i64 (h - n - s - min s 1))) (by decide) (mono_isv _) (ob2 rfl fun M w' hs v1 k1 v2 k2 => ?_) ?_
      · cases k1; cases k2
        refine opg_yes rfl rfl (op_callv (cap := [ptr bh, ptr bl, ptr bs]) ent43 rfl rfl (room_c M w' bh bl bs 5 11 12 h n s (hv.up hs).height (hv.up hs).lines (hv.up hs).shown h1 h2 h3) ?_)
        rintro r w1 ⟨rfl, rfl⟩
        exact ⟨_, UpM.refl _ _, rfl⟩
      refine dr_cons (isv (.int .i64 s)) (by decide) (mono_isv _) (ob1 rfl fun M w' hs v1 k1 => ?_) ?_
      · cases k1; exact opg_yes rfl rfl (op_load1 tdI rfl (hv.up hs).shown rfl ⟨_, UpM.refl _ _, rfl⟩)
      refine dr_cons (isv (.int .i64 (min s 1))) (by decide) (mono_isv _) (ob2 rfl fun M w' hs v1 k1 v2 k2 => ?_) ?_
      · cases k1; cases k2; exact opg_yes rfl rfl (op_min rfl rfl ⟨_, UpM.refl _ _, rfl⟩)
      refine dr_cons (isv (.int .i64 (3 - min s 1))) (by decide) (mono_isv _) (ob2 rfl fun M w' hs v1 k1 v2 k2 => ?_) ?_
      · cases k1; cases k2; exact opg_yes rfl rfl (op_sub rfl rfl (by omega) ⟨_, UpM.refl _ _, rfl⟩)
      refine dr_cons (isv (.bool (decide (3 - min s 1 ≤ h - n - s - min s 1)))) (by decide) (mono_isv _) (ob3 rfl fun M w' hs v1 k1 v2 k2 v3 k3 => ?_) ?_
      · cases k1; cases k2; cases k3; exact opg_yes rfl rfl (op_geq rfl rfl ⟨_, UpM.refl _ _, rfl⟩)
      refine dr_cons (isv (.bool (decide (3 - min s 1 ≤ h - n - s - min s 1)))) (by decide) (mono_isv _) (ob2 rfl fun M w' hs v1 k1 v2 k2 => ?_) ?_
      · cases k1; cases k2; exact opg (op_pick_t rfl rfl ⟨_, UpM.refl _ _, rfl⟩)
      refine dr_nil rfl (fun M3 w4 val hs2 hall => ?_)
      obtain ⟨h33, _⟩ := hall
      have e33 : val 33 = _ := h33
      refine RT.sub (fr' := [(33, val 33)]) ?_ (by repeat (first | exact trivial | refine ⟨rfl, ?_⟩))
      rw [e33]
      refine rt_one (i := 12) (by kernel_rfl) rfl (by decide) (op_assign rfl ?_)
      refine rt_nil (by kernel_rfl) ?_
      (repeat (first | refine run_seq ?_ | fail))
      refine run_ret1 Tryd.func44 rfl rfl ?_
      exact ⟨by rw [decide_eq_true hsq, Bool.true_and], (hs1.trans hs2).bel⟩
    · refine region_dr (M := M) 12 1 [] mixed rfl (by kernel_rfl) (fun w1 hs1 => ?_)
      replace hq := hq.mono hs1.x
      replace hv := hv.up hs1
      refine dr_cons (isv (.int .i64 s)) (by decide) (mono_isv _) (ob0 rfl fun M w' hs => opg (op_load1 tdI rfl (hv.up hs).shown rfl ⟨_, UpM.refl _ _, rfl⟩)) ?_
      refine dr_cons (isv vq) (by decide) (mono_isv _) (ob0 rfl fun M w' hs => opg (op_load1 tdSL rfl (hv.up hs).queue rfl ⟨_, UpM.refl _ _, rfl⟩)) ?_
      refine dr_cons (isv (.int .i64 q.length)) (by decide) (mono_isv _) (ob1 rfl fun M w' hs v1 h1 => ?_) ?_
      · cases h1; exact opg (op_len uL rfl (hq.mono hs.x) ⟨_, UpM.refl _ _, rfl⟩)
      refine dr_cons (isv (.bool false)) (by decide) (mono_isv _) (ob2 rfl fun M w' hs v1 h1 v2 h2 => ?_) ?_
      · cases h1; cases h2; exact opg (op_eql rfl rfl ⟨_, UpM.refl _ _, by rw [decide_eq_false hsq]; rfl⟩)
      refine dr_cons (isv (.bool false)) (by decide) (mono_isv _) (ob1 rfl fun M w' hs v1 h1 => ?_) ?_
      · cases h1; exact opg (op_move rfl ⟨_, UpM.refl _ _, rfl⟩)
      refine dr_cons (isv undef) (by decide) (mono_isv _) (ob1 rfl fun M w' hs v1 k1 => ?_) ?_
      · cases k1; exact opg_no rfl rfl (by decide) ⟨_, UpM.refl _ _, rfl⟩
      refine dr_cons (isv undef) (by decide) (mono_isv _) (ob2 rfl fun M w' hs v1 k1 v2 k2 => ?_) ?_
      · cases k1; cases k2; exact opg_no rfl rfl (by decide) ⟨_, UpM.refl _ _, rfl⟩
      refine dr_cons (isv undef) (by decide) (mono_isv _) (ob1 rfl fun M w' hs v1 k1 => ?_) ?_
      · cases k1; exact opg_no rfl rfl (by decide) ⟨_, UpM.refl _ _, rfl⟩
      refine dr_cons (isv undef) (by decide) (mono_isv _) (ob2 rfl fun M w' hs v1 k1 v2 k2 => ?_) ?_
      · cases k1; cases k2; exact opg_no rfl rfl (by decide) ⟨_, UpM.refl _ _, rfl⟩
      refine dr_cons (isv undef) (by decide) (mono_isv _) (ob2 rfl fun M w' hs v1 k1 v2 k2 => ?_) ?_
      · cases k1; cases k2; exact opg_no rfl rfl (by decide) ⟨_, UpM.refl _ _, rfl⟩
      refine dr_cons (isv undef) (by decide) (mono_isv _) (ob3 rfl fun M w' hs v1 k1 v2 k2 v3 k3 => ?_) ?_
      · cases k1; cases k2; cases k3; exact opg_no rfl rfl (by decide) ⟨_, UpM.refl _ _, rfl⟩
      refine dr_cons (isv (.bool false)) (by decide) (mono_isv _) (ob2 rfl fun M w' hs v1 k1 v2 k2 => ?_) ?_
      · cases k1; cases k2; exact opg (op_pick_f rfl rfl ⟨_, UpM.refl _ _, rfl⟩)
      refine dr_nil rfl (fun M3 w4 val hs2 hall => ?_)
      obtain ⟨h33, _⟩ := hall
      have e33 : val 33 = _ := h33
      refine RT.sub (fr' := [(33, val 33)]) ?_ (by repeat (first | exact trivial | refine ⟨rfl, ?_⟩))
      rw [e33]
      refine rt_one (i := 12) (by kernel_rfl) rfl (by decide) (op_assign rfl ?_)
      refine rt_nil (by kernel_rfl) ?_
      (repeat (first | refine run_seq ?_ | fail))
      refine run_ret1 Tryd.func44 rfl rfl ?_
      exact ⟨by rw [decide_eq_false hsq, Bool.false_and], (hs1.trans hs2).bel⟩
end Go.Proofs.YtocoinkhbjlbhaaDoor
end
