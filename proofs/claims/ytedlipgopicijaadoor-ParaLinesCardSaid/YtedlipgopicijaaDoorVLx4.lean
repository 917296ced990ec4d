/-
  ParaLines: for all inputs the law returns true, and the inputs read as they did; the table of widths is tied to the text.
-/
import Derived.Calls
import Derived.Orders
import Derived.Below
import Derived.KernelRfl
import Derived.WalkKit
import Derived.Laws.AppendOwn
import Derived.Laws.Rows
import Derived.Deep.Slices
import Derived.Laws.OwnMore
import Derived.Laws.MakeOwn
import Derived.Laws.CopyRow
import Derived.Still
import Derived.Lib.SliceRun
import Derived.Test.YtedlipgopicijaaDoorChecked
import Derived.Lib.AppendZeros
import Derived.Scope
import Derived.SizedLaws
import Derived.Test.YtedlipgopicijaaDoorRows
import Derived.Test.YtedlipgopicijaaDoorCards
import Derived.Test.YtedlipgopicijaaDoorTie
import Derived.Lib.LaidTab
import Derived.LaidMore
import Derived.SevenTiedAt
import Derived.ProofKit
import Derived.OpenShut
import Derived.ChangeOld
import Derived.ChangeMaps5
import Derived.Test.YtedlipgopicijaaDoorVLx3
section
namespace Go.Proofs.YtedlipgopicijaaDoor
open Go Go.RowKit
theorem ordEn_len {n : Int} : ∀ {l : List Int} {a : Int}, ordE n a l = true → (l.length : Int) ≤ n - a
  | [], a, h => by have := ordE_nil h; simp; omega
  | e :: r, a, h => by
    obtain ⟨h1, h2, h3⟩ := ordE_cons h
    have := ordEn_len h3
    simp only [List.length_cons]
    omega
theorem lrow_set {L : List Line} {i n : Nat} {z x : Line} (hL : L.length = i) (h : i < n) : (L ++ List.replicate (n - i) z).set i x = L ++ [x] ++ List.replicate (n - (i + 1)) z := by
  rw [List.set_append, if_neg (by omega), hL, Nat.sub_self, show n - i = (n - (i + 1)) + 1 by omega, List.replicate_succ, List.set_cons_zero, List.append_assoc]
  rfl
set_option maxHeartbeats 16000000 in
theorem setL_f {ws : List Wd} {first m : Int} (hm : 500 ≤ m ∧ m ≤ 2000) (hf : 0 ≤ first ∧ first ≤ 1000000) (h : OKR ws) : Fn Tryd.prog 32 [pSl eWord ws, pI first, pI m] (pSl eLine (lnsM ws first m)) := by
  have hl := h.len
  have hwl := widsW_len ws
  have hchk := h.chk hm
  refine fn_of ent32 Tryd.func32 rfl Tryd.ntmps32 rfl fun M0 w0 => ?_
  (repeat (first | refine c_seq ?_ | refine c_reg ?_ | refine c_rnil ?_ | refine (c_make 1 100) ?_ | refine c_op (by first | exact t_move | exact t_assign | exact t_len | fail) ?_ | fail))
  intro b
  (repeat (first | refine c_seq ?_ | refine c_reg ?_ | refine c_rnil ?_ | refine c_block ?_ | refine c_op (by first | exact t_move | exact t_assign | exact t_len | fail) ?_ | fail))
  refine c_loop (fun i : Nat => [(0, .pu (pSl eWord ws)), (1, .pu (pI first)), (2, .pu (pI m)), (7, .pu (pSr b ws.length)), (100, .rw b 1 eI ((widsW ws).take i ++ List.replicate (ws.length - i) 0) 3), (22, .pu (pSl eWord ws)), (23, .pu (pI ws.length)), (24, .pu (pI i))])
    (fun i => i ≤ ws.length) (fun i => ws.length - i) 0 (by omega) (by repeat (first | exact trivial | refine ⟨has_rfl rfl, ?_⟩ | fail)) fun i hi ih => ?_
  by_cases hlt : i < ws.length
  · have hset := row_set (w := widsW ws) hwl hlt
    rw [widsW_get ws i hlt] at hset
    (repeat (first | refine c_seq ?_ | refine c_reg ?_ | refine c_rnil ?_ | refine c_block ?_ | refine c_inBlock ?_ | refine c_skip ?_ | refine c_true ?_ | refine (c_st 100 (t_st 100 (hi := (by simp; omega)))) ?_ | refine c_op (by first | exact t_call (h := width25_f) | exact (t_idxR 100) | exact t_move | exact t_assign | exact t_add | exact t_lssT | exact t_idxN | exact t_load | exact t_fa | exact t_allocV | fail) ?_ | refine c_stV ?_ | fail))
    refine (ih (i + 1) (by omega) (by omega)).sub ?_
    rw [← hset]
    (repeat' (first | exact trivial | refine ⟨?_, ?_⟩ | fail)) <;> (try first | exact has_rfl rfl | exact has_nil rfl | exact has_nilS rfl | exact has_gr rfl | exact has_nilGo rfl | exact has_int rfl (by first | omega | fail) | fail)
  (repeat (first | refine c_seq ?_ | fail))
  refine c_reg ?_
  (repeat (first | refine c_seq ?_ | refine c_rnil ?_ | refine c_exit ?_ | refine c_false ?_ | refine c_op (by first | exact t_lssF | fail) ?_ | fail))
  refine c_frz 7 100 ?_ (hn := by simp; omega)
  refine c_to 7 (.pu (pSl eI (widsW ws))) ?_ ?_
  · exact has_sl rfl (row_end hwl (by omega))
  obtain ⟨E, hE⟩ : ∃ E, E = endsM (widsW ws) m := ⟨_, rfl⟩
  have hord : ordE ws.length 0 E = true := by rw [hE, ← hwl]; exact ends_ord hm.1 h.ok
  have hEl := ordEn_len hord
  have hgo : lnGo ws first m 0 E = lnsM ws first m := by rw [hE]; rfl
  (repeat (first | refine c_seq ?_ | refine c_reg ?_ | refine c_rnil ?_ | refine (c_make 2 101) ?_ | refine c_op (by first | exact t_call (h := (ends_v hchk hE.symm)) | exact t_move | exact t_assign | exact t_ext0 | exact t_ext1 | exact t_len | fail) ?_ | fail))
  intro b2
  (repeat (first | refine c_seq ?_ | refine c_reg ?_ | refine c_rnil ?_ | refine c_block ?_ | refine c_op (by first | exact t_move | exact t_assign | exact t_len | fail) ?_ | fail))
  refine c_loop (fun x : Nat × Int × List Line => [(0, .pu (pSl eWord ws)), (1, .pu (pI first)), (2, .pu (pI m)), (7, .pu (pSl eI (widsW ws))), (10, .pu (pSl eI E)), (12, .pu (pSr b2 E.length)), (101, .rw b2 2 eLine (x.2.2 ++ List.replicate (E.length - x.1) ⟨0, 0, [], []⟩) 42), (13, .pu (pI x.2.1)), (45, .pu (pSl eI E)), (46, .pu (pI E.length)), (47, .pu (pI x.1))])
    (fun x => x.1 ≤ E.length ∧ x.2.2.length = x.1 ∧ x.2.2 ++ lnGo ws first m x.2.1 (E.drop x.1) = lnsM ws first m ∧ ordE ws.length x.2.1 (E.drop x.1) = true ∧ 0 ≤ x.2.1) (fun x => E.length - x.1) (0, 0, []) ⟨by simp, rfl, hgo, hord, by simp⟩ (by repeat (first | exact trivial | refine ⟨has_rfl rfl, ?_⟩ | fail)) ?_
  rintro ⟨i, a, L⟩ ⟨hi, hLi, hLs, ho, ha⟩ ih
  dsimp only at hi hLi hLs ho ha ih ⊢
  by_cases hlt : i < E.length
  · have hdrop : E.drop i = E[i] :: E.drop (i + 1) := List.drop_eq_getElem_cons hlt
    rw [hdrop] at ho hLs
    obtain ⟨o1, o2, o3⟩ := ordE_cons ho
    obtain ⟨e, he⟩ : ∃ e, e = E[i] := ⟨_, rfl⟩
    rw [← he] at o1 o2 o3 hLs
    have hlast : decide (E.drop (i + 1) = []) = decide ((i : Int) = E.length - 1) := decide_eq_decide.2 (by rw [List.drop_eq_nil_iff]; omega)
    have hseg1 : (seg (widsW ws) a e).length ≤ 500 := by have := seg_len (w := widsW ws) (a := a) (b := e); omega
    have hseg2 : ∀ x ∈ seg (widsW ws) a e, 1 ≤ x ∧ x ≤ 480 := fun x hx => h.ok x (seg_mem x hx)
    have hsegl := segW_len (w := ws) ha (by omega) o2
    have hsegn : ∀ w ∈ segW ws a e, 0 ≤ w.note ∧ w.note ≤ 100 := fun w hw => h.note w (segW_mem w hw)
    have gf := gaps_f (m := m) (last := decide ((i : Int) = E.length - 1)) (by omega) hseg1 hseg2
    unfold seg at gf
    subst he
    (repeat (first | refine c_seq ?_ | refine c_reg ?_ | refine c_rnil ?_ | refine c_block ?_ | refine c_skip ?_ | refine c_true ?_ | refine (c_allocB 3 102 tdL) ?_ | refine c_op (by first | exact t_call (h := gf) | exact (t_sliceM) | exact (t_blLn) | exact t_move | exact t_assign | exact t_add | exact t_sub | exact t_lssT | exact t_eql | exact t_len | exact t_idxN | exact t_load | fail) ?_ | fail))
    intro b3
    refine c_stLn 102 103 104 4 fun ad n cap i1 i2 => ?_
    (repeat (first | refine c_seq ?_ | refine c_reg ?_ | refine c_rnil ?_ | refine c_block ?_ | refine c_op (by first | exact t_move | exact t_len | exact t_sliceLH | fail) ?_ | fail))
    refine c_loop (fun x : Nat × Value => [(0, .pu (pSl eWord ws)), (1, .pu (pI first)), (2, .pu (pI m)), (7, .pu (pSl eI (widsW ws))), (10, .pu (pSl eI E)), (12, .pu (pSr b2 E.length)), (101, .rw b2 2 eLine (L ++ List.replicate (E.length - i) ⟨0, 0, [], []⟩) 42), (13, .pu (pI a)), (14, .pu (pI i)), (15, .pu (pI E[i])),
        (16, .pu (pCe b3 0)), (102, .bx b3 3 [.int .i64 (first + a), .int .i64 (first + E[i]), .slice ad n cap, x.2] 42), (103, .gh (slG (.slice ad n cap) (gapsM (seg (widsW ws) a E[i]) m (decide ((i : Int) = E.length - 1))))), (104, .gv x.2 eI (notesW ((segW ws a E[i]).take x.1)) 4 3),
        (45, .pu (pSl eI E)), (46, .pu (pI E.length)), (47, .pu (pI i)), (74, .pu (pSl eWord (segW ws a E[i]))), (75, .pu (pI (segW ws a E[i]).length)), (76, .pu (pI x.1))])
      (fun x => x.1 ≤ (segW ws a E[i]).length) (fun x => (segW ws a E[i]).length - x.1) (0, .slice none 0 0) (by simp) (by repeat (first | exact trivial | refine ⟨has_rfl rfl, ?_⟩ | fail)) ?_
    rintro ⟨k, nv⟩ hk ih3
    dsimp only at hk ih3 ⊢
    by_cases hlk : k < (segW ws a E[i]).length
    · have hnt := hsegn _ (List.getElem_mem hlk)
      have htk : notesW ((segW ws a E[i]).take (k + 1)) = notesW ((segW ws a E[i]).take k) ++ if (segW ws a E[i])[k].note ≠ 0 then [(segW ws a E[i])[k].note - 1] else [] := by
        rw [List.take_succ_eq_append_getElem hlk, notesW_append, notesW_one]
      by_cases hno : (segW ws a E[i])[k].note = 0
      · rw [if_neg (fun hc => hc hno), List.append_nil] at htk
        (repeat (first | refine c_seq ?_ | refine c_reg ?_ | refine c_rnil ?_ | refine c_block ?_ | refine c_inBlock ?_ | refine c_skip ?_ | refine c_true ?_ | refine c_false ?_ | refine c_op (by first | exact t_move | exact t_add | exact t_lssT | exact t_neqF | exact t_idxN | exact t_load | exact t_fa | exact t_allocV | fail) ?_ | refine c_stV ?_ | fail))
        refine (ih3 (k + 1, nv) (by dsimp only; omega) (by dsimp only; omega)).sub ?_
        dsimp only
        rw [htk]
        (repeat' (first | exact trivial | refine ⟨?_, ?_⟩ | fail)) <;> (try first | exact has_rfl rfl | exact has_nil rfl | exact has_nilS rfl | exact has_gr rfl | exact has_nilGo rfl | exact has_int rfl (by first | omega | fail) | fail)
      · rw [if_pos hno] at htk
        have hnl : (notesW ((segW ws a E[i]).take k)).length ≤ 500 := by
          unfold notesW
          rw [List.length_map]
          refine Nat.le_trans (List.length_filter_le _ _) ?_
          rw [List.length_take]; omega
        (repeat (first | refine c_seq ?_ | refine c_reg ?_ | refine c_rnil ?_ | refine c_block ?_ | refine c_skip ?_ | refine c_true ?_ | refine (c_opW (t_appV 104)) ?_ | refine c_op (by first | exact (t_faB) | exact (t_loadB 102) | exact t_sub | exact t_lssT | exact t_neqT | exact t_idxN | exact t_load | exact t_fa | exact t_bs | exact t_allocV | fail) ?_ | refine c_stV ?_ | fail))
        refine r_name 89 104 fun nv2 => ?_
        refine c_st 102 (t_stV 102 104) ?_
        (repeat (first | refine c_reg ?_ | refine c_rnil ?_ | refine c_inBlock ?_ | refine c_op (by first | exact t_move | exact t_add | fail) ?_ | fail))
        refine (ih3 (k + 1, nv2) (by dsimp only; omega) (by dsimp only; omega)).sub ?_
        dsimp only
        rw [htk]
        (repeat' (first | exact trivial | refine ⟨?_, ?_⟩ | fail)) <;> (try first | exact has_rfl rfl | exact has_nil rfl | exact has_nilS rfl | exact has_gr rfl | exact has_nilGo rfl | exact has_int rfl (by first | omega | fail) | fail)
    · have htk : (segW ws a E[i]).take k = segW ws a E[i] := List.take_of_length_le (by omega)
      rw [htk]
      have hrow := lrow_set (L := L) (n := E.length) (z := ⟨0, 0, [], []⟩) (x := ⟨first + a, first + E[i], gapsM (seg (widsW ws) a E[i]) m (decide ((i : Int) = E.length - 1)), notesW (segW ws a E[i])⟩) hLi hlt
      (repeat (first | refine c_seq ?_ | refine c_reg ?_ | refine c_rnil ?_ | refine c_inBlock ?_ | refine c_exit ?_ | refine c_false ?_ | refine (c_st 101 (t_st 101 (hi := (by simp; omega)))) ?_ | refine c_op (by first | exact (t_loadLn 102 103 104 (ha := i1) (he := i2)) | exact (t_idxR 101) | exact t_move | exact t_assign | exact t_add | exact t_lssF | fail) ?_ | fail))
      refine (ih (i + 1, E[i], L ++ [⟨first + a, first + E[i], gapsM (seg (widsW ws) a E[i]) m (decide ((i : Int) = E.length - 1)), notesW (segW ws a E[i])⟩]) ⟨by dsimp only; omega, by dsimp only; simp [hLi], ?_, o3, by dsimp only; omega⟩ (by dsimp only; omega)).sub ?_
      · dsimp only
        rw [← hLs]
        simp only [lnGo, List.append_assoc, List.cons_append, List.nil_append, hlast]
      · dsimp only
        rw [← hrow]
        (repeat' (first | exact trivial | refine ⟨?_, ?_⟩ | fail)) <;> (try first | exact has_rfl rfl | exact has_nil rfl | exact has_nilS rfl | exact has_gr rfl | exact has_nilGo rfl | exact has_int rfl (by first | omega | fail) | fail)
  · have hd : E.drop i = [] := List.drop_of_length_le (by omega)
    rw [hd] at hLs
    simp only [lnGo, List.append_nil] at hLs
    (repeat (first | refine c_seq ?_ | fail))
    refine c_reg ?_
    (repeat (first | refine c_seq ?_ | refine c_rnil ?_ | refine c_exit ?_ | refine c_false ?_ | refine c_op (by first | exact t_lssF | fail) ?_ | fail))
    refine c_frz 12 101 ?_ (hn := by simp; omega)
    refine c_to 12 (.pu (pSl eLine (lnsM ws first m))) ?_ ?_
    · exact has_sl rfl (by rw [show E.length - i = 0 by omega, ← hLs]; simp)
    (repeat (first | refine c_reg ?_ | refine c_rnil ?_ | refine c_op (by first | exact t_move | exact t_assign | fail) ?_ | fail))
    refine c_ret1 Tryd.func32 rfl ?_
    exact fun h => h
end Go.Proofs.YtedlipgopicijaaDoor
end

section
namespace Go.Proofs.YtedlipgopicijaaDoor
open Go Go.RowKit
theorem q_stLnV {f : FuncId} {N : Nat} {M0 : Mut} {w0 : World} {R : Value → World → Prop} {G : TF} {k : List Item} {ops : Array Oper} {n s : Nat} {listed : Array Bool} {ty : TypeId} {pos : String} {aft : Array Edge} {y : Operand} {tag : Nat} {te : TypeId} {a e : Int} {gaps : List Int} (i key kg kn tn : Nat)
    (hr : Region.ready .any ops listed = [i]) (ho : ops[i]? = some ⟨none, .store 42 (.tmp s) y, ty, pos, aft, none⟩)
    (hk : ∀ (b : Nat) (ad : Option Addr) (len cap : Nat), I64 a → I64 e → RTt Tryd.prog f N M0 w0 ops k R n (listed.setIfInBounds i true) ((s, .pu (pCe b 0)) :: (key, .bx b tag [.int .i64 a, .int .i64 e, .slice ad len cap, .slice none 0 0] te) :: (kg, .gh (slG (.slice ad len cap) gaps)) :: (kn, .gv (.slice none 0 0) eI [] tn 3) :: dropW [tag] G))
    (hx : tlook G s = some (.go (varG eLine tag te)) := by rfl) (hy : topP G y = some (pLn0 a e gaps) := by rfl) :
    RTt Tryd.prog f N M0 w0 ops k R (n + 1) listed G := ⟨fun {M w fr} hrn hf => by
  obtain ⟨v, h1, b, cs, rfl, hB, hl, hb⟩ := hf.out s _ hx (.inr trivial)
  obtain ⟨u, h2, h3⟩ := hf.op0 hy (fun _ _ => trivial)
  refine rt_one0 hr ho (stLn_run hrn h1 h2 h3 hB hb hl fun ad len cap M' w' hs hb' hsl i1 i2 => ?_)
  exact (hk b ad len cap i1 i2).out (hrn.stw hs) (Fit.hide (T := .pu (pCe b 0)) (Fit.hide (T := .bx _ _ _ _) (Fit.hide (T := .gh (slG (.slice ad len cap) gaps)) (Fit.hide (T := .gv (.slice none 0 0) eI [] tn 3) (hf.after hs) ⟨SlOf.nil _ _ _, Grow.nil⟩) hsl) ⟨hB, hb'⟩) ⟨_, h1, rfl⟩)⟩
theorem endsR_v {w r : List Int} {m : Int} (h : chk26 w m = 0) (h2 : endsM w m = r) : Fn Tryd.prog 60 [pSl eI w, pI m] (pT2 (pSl eI r) (pI 0)) := by
  have := endsR_f (w := w) (m := m)
  rwa [if_pos h, h, h2] at this
set_option maxHeartbeats 16000000 in
theorem linesR_f {ws : List Wd} {first m : Int} (hm : 500 ≤ m ∧ m ≤ 2000) (hf : 0 ≤ first ∧ first ≤ 1000000) (h : OKR ws) : Fn Tryd.prog 34 [pSl eWord ws, pI first, pI m] (pSl eLine (lnsM ws first m)) := by
  have hl := h.len
  have hwl := widsW_len ws
  have hchk := h.chk hm
  refine fn_of ent34 Tryd.func34 rfl Tryd.ntmps34 rfl fun M0 w0 => ?_
  (repeat (first | refine c_seq ?_ | refine c_reg ?_ | refine c_rnil ?_ | refine c_block ?_ | refine c_op (by first | exact t_assign | fail) ?_ | fail))
  refine c_loop (fun i : Nat => [(0, .pu (pSl eWord ws)), (1, .pu (pI first)), (2, .pu (pI m)), (7, .gr eI ((widsW ws).take i) 1 3), (8, .pu (pI i))])
    (fun i => i ≤ ws.length) (fun i => ws.length - i) 0 (by omega) (by repeat (first | exact trivial | refine ⟨has_rfl rfl, ?_⟩ | refine ⟨has_nil rfl, ?_⟩ | fail)) fun i hi ih => ?_
  have htl : ((widsW ws).take i).length = i := by rw [List.length_take]; omega
  by_cases hlt : i < ws.length
  · have hset : (widsW ws).take (i + 1) = (widsW ws).take i ++ [widM ws[i].s] := by
      rw [List.take_succ_eq_append_getElem (by omega), widsW_get ws i hlt]
    (repeat (first | refine c_seq ?_ | refine c_reg ?_ | refine c_rnil ?_ | refine c_block ?_ | refine c_inBlock ?_ | refine c_skip ?_ | refine c_true ?_ | refine c_op (by first | exact t_call (h := widthR_f) | exact t_moveG | exact t_move | exact t_assignG | exact t_assign | exact t_add | exact t_lssT | exact t_len | exact t_idxN | exact t_load | exact t_fa | exact t_bs | fail) ?_ | refine c_opW t_app ?_ | fail))
    refine (ih (i + 1) (by omega) (by omega)).sub ?_
    rw [hset]
    (repeat' (first | exact trivial | refine ⟨?_, ?_⟩ | fail)) <;> (try first | exact has_rfl rfl | exact has_nil rfl | exact has_nilS rfl | exact has_gr rfl | exact has_nilGo rfl | exact has_int rfl (by first | omega | fail) | fail)
  (repeat (first | refine c_seq ?_ | fail))
  refine c_reg ?_
  (repeat (first | refine c_seq ?_ | refine c_rnil ?_ | refine c_exit ?_ | refine c_false ?_ | refine c_op (by first | exact t_move | exact t_lssF | exact t_len | fail) ?_ | fail))
  refine c_to 7 (.gr eI (widsW ws) 1 3) ?_ ?_
  · exact has_grE rfl (List.take_of_length_le (by omega))
  obtain ⟨E, hE⟩ : ∃ E, E = endsM (widsW ws) m := ⟨_, rfl⟩
  have hord : ordE ws.length 0 E = true := by rw [hE, ← hwl]; exact ends_ord hm.1 h.ok
  have hEl := ordEn_len hord
  have hgo : lnGo ws first m 0 E = lnsM ws first m := by rw [hE]; rfl
  (repeat (first | refine c_seq ?_ | refine c_reg ?_ | refine c_rnil ?_ | refine c_block ?_ | refine c_op (by first | exact t_call (h := (endsR_v hchk hE.symm)) | exact t_moveG | exact t_move | exact t_assign | exact t_ext0 | exact t_ext1 | fail) ?_ | fail))
  refine c_loop (fun x : Nat × Nat × List Line => [(0, .pu (pSl eWord ws)), (1, .pu (pI first)), (2, .pu (pI m)), (7, .pu (pSl eI (widsW ws))), (9, .pu (pSl eI E)), (11, .gr eLine x.2.2 5 42), (12, .pu (pI x.2.1)), (13, .pu (pI x.1))])
    (fun x => x.1 ≤ E.length ∧ x.2.2.length = x.1 ∧ x.2.2 ++ lnGo ws first m x.2.1 (E.drop x.1) = lnsM ws first m ∧ ordE ws.length x.2.1 (E.drop x.1) = true) (fun x => E.length - x.1) (0, 0, []) ⟨by simp, rfl, hgo, hord⟩ (by repeat (first | exact trivial | refine ⟨has_rfl rfl, ?_⟩ | refine ⟨has_nil rfl, ?_⟩ | refine ⟨has_gr rfl, ?_⟩ | fail)) ?_
  rintro ⟨i, a, L⟩ ⟨hi, hLi, hLs, ho⟩ ih
  dsimp only at hi hLi hLs ho ih ⊢
  by_cases hlt : i < E.length
  · have hdrop : E.drop i = E[i] :: E.drop (i + 1) := List.drop_eq_getElem_cons hlt
    rw [hdrop] at ho hLs
    obtain ⟨o1, o2, o3⟩ := ordE_cons ho
    have hlast : decide (E.drop (i + 1) = []) = decide ((i : Int) = E.length - 1) := decide_eq_decide.2 (by rw [List.drop_eq_nil_iff]; omega)
    have hseg1 : (seg (widsW ws) a E[i]).length ≤ 500 := by have := seg_len (w := widsW ws) (a := a) (b := E[i]); omega
    have hseg2 : ∀ x ∈ seg (widsW ws) a E[i], 1 ≤ x ∧ x ≤ 480 := fun x hx => h.ok x (seg_mem x hx)
    have gf := gapsR_f (m := m) (last := decide ((i : Int) = E.length - 1)) (by omega) hseg1 hseg2
    unfold seg at gf
    have et : ((E[i].toNat : Nat) : Int) = E[i] := by omega
    (repeat (first | refine c_seq ?_ | refine c_reg ?_ | refine c_rnil ?_ | refine c_block ?_ | refine c_skip ?_ | refine c_true ?_ | refine c_op (by first | exact t_move | exact t_lssT | exact t_len | fail) ?_ | fail))
    refine c_draw {} 25 1 [] [] mixed (by kernel_rfl) rfl rfl ?_
    (repeat (first | refine d_op (by first | exact t_call (h := gf) | exact (t_blLn) | exact t_move | exact t_add | exact t_sub | exact t_eql | exact t_len | exact t_idxN | exact t_load | exact t_sliceLH | exact t_allocV | fail) ?_ | fail))
    refine d_nil ?_
    refine q_stLnV 25 102 103 104 4 (by kernel_rfl) rfl fun b3 ad n cap i1 i2 => ?_
    refine q_nil ?_ (by kernel_rfl)
    (repeat (first | refine c_seq ?_ | refine c_reg ?_ | refine c_rnil ?_ | refine c_block ?_ | refine c_op (by first | exact t_move | exact t_assign | fail) ?_ | fail))
    refine c_loop (fun x : Nat × Value => [(0, .pu (pSl eWord ws)), (1, .pu (pI first)), (2, .pu (pI m)), (7, .pu (pSl eI (widsW ws))), (9, .pu (pSl eI E)), (11, .gr eLine L 5 42), (12, .pu (pI a)), (13, .pu (pI i)),
        (14, .pu (pCe b3 0)), (102, .bx b3 1014 [.int .i64 (first + a), .int .i64 (first + E[i]), .slice ad n cap, x.2] 42), (103, .gh (slG (.slice ad n cap) (gapsM (seg (widsW ws) a E[i]) m (decide ((i : Int) = E.length - 1))))), (104, .gv x.2 eI (notesW (segW ws a x.1)) 4 3), (15, .pu (pI x.1))])
      (fun x => a ≤ x.1 ∧ x.1 ≤ E[i].toNat) (fun x => E[i].toNat - x.1) (a, .slice none 0 0) ⟨Nat.le_refl _, by dsimp only; omega⟩ ?_ ?_
    · have e0 : notesW (segW ws a ((a : Nat) : Int)) = [] := by unfold segW; simp [notesW]
      dsimp only
      rw [e0]
      (repeat' (first | exact trivial | refine ⟨?_, ?_⟩ | fail)) <;> (try first | exact has_rfl rfl | exact has_nil rfl | exact has_nilS rfl | exact has_gr rfl | exact has_nilGo rfl | exact has_int rfl (by first | omega | fail) | fail)
    rintro ⟨k, nv⟩ ⟨hk1, hk2⟩ ih3
    dsimp only at hk1 hk2 ih3 ⊢
    by_cases hlk : (k : Int) < E[i]
    · have hkl : k < ws.length := by omega
      have hnt := h.note _ (List.getElem_mem hkl)
      have htk : notesW (segW ws a ((k + 1 : Nat) : Int)) = notesW (segW ws a k) ++ if ws[k].note ≠ 0 then [ws[k].note - 1] else [] := by
        rw [segW_succ hk1 hkl, notesW_append, notesW_one]
      by_cases hno : ws[k].note = 0
      · rw [if_neg (fun hc => hc hno), List.append_nil] at htk
        (repeat (first | refine c_seq ?_ | refine c_reg ?_ | refine c_rnil ?_ | refine c_block ?_ | refine c_inBlock ?_ | refine c_skip ?_ | refine c_true ?_ | refine c_false ?_ | refine c_op (by first | exact t_move | exact t_assign | exact t_add | exact t_lssT | exact t_neqF | exact t_idxN | exact t_load | exact t_fa | fail) ?_ | fail))
        refine (ih3 (k + 1, nv) ⟨by dsimp only; omega, by dsimp only; omega⟩ (by dsimp only; omega)).sub ?_
        dsimp only
        rw [htk]
        (repeat' (first | exact trivial | refine ⟨?_, ?_⟩ | fail)) <;> (try first | exact has_rfl rfl | exact has_nil rfl | exact has_nilS rfl | exact has_gr rfl | exact has_nilGo rfl | exact has_int rfl (by first | omega | fail) | fail)
      · rw [if_pos hno] at htk
        have hnl : (notesW (segW ws a k)).length ≤ 500 := by
          unfold notesW
          rw [List.length_map]
          refine Nat.le_trans (List.length_filter_le _ _) ?_
          unfold segW
          rw [List.length_take]; omega
        (repeat (first | refine c_seq ?_ | refine c_reg ?_ | refine c_rnil ?_ | refine c_block ?_ | refine c_skip ?_ | refine c_true ?_ | refine c_op (by first | exact t_move | exact t_lssT | exact t_neqT | exact t_idxN | exact t_load | exact t_fa | fail) ?_ | fail))
        refine c_draw {} 9 3 [] [] mixed (by kernel_rfl) rfl rfl ?_
        (repeat (first | refine d_op (by first | exact (t_faB) | exact (t_loadB 102) | exact t_move | exact t_sub | exact t_idxN | exact t_load | exact t_fa | exact t_bs | fail) ?_ | fail))
        refine d_nil ?_
        refine q_op 9 (by kernel_rfl) rfl (t_appV 104) ?_
        refine q_name 91 104 fun nv2 => ?_
        refine q_op 10 (by kernel_rfl) rfl t_faB ?_
        refine q_st 11 102 (by kernel_rfl) rfl (t_stV 102 104) ?_
        refine q_nil ?_ (by kernel_rfl)
        (repeat (first | refine c_reg ?_ | refine c_rnil ?_ | refine c_inBlock ?_ | refine c_op (by first | exact t_move | exact t_assign | exact t_add | fail) ?_ | fail))
        refine (ih3 (k + 1, nv2) ⟨by dsimp only; omega, by dsimp only; omega⟩ (by dsimp only; omega)).sub ?_
        dsimp only
        rw [htk]
        (repeat' (first | exact trivial | refine ⟨?_, ?_⟩ | fail)) <;> (try first | exact has_rfl rfl | exact has_nil rfl | exact has_nilS rfl | exact has_gr rfl | exact has_nilGo rfl | exact has_int rfl (by first | omega | fail) | fail)
    · have htk : ((k : Nat) : Int) = E[i] := by omega
      rw [htk]
      (repeat (first | refine c_seq ?_ | refine c_reg ?_ | refine c_rnil ?_ | refine c_inBlock ?_ | refine c_exit ?_ | refine c_false ?_ | refine c_op (by first | exact (t_loadLn 102 103 104 (ha := i1) (he := i2)) | exact t_moveG | exact t_move | exact t_assignG | exact t_assign | exact t_add | exact t_lssF | exact t_idxN | exact t_load | exact t_bs | fail) ?_ | refine c_opW t_app ?_ | fail))
      refine (ih (i + 1, E[i].toNat, L ++ [⟨first + a, first + E[i], gapsM (seg (widsW ws) a E[i]) m (decide ((i : Int) = E.length - 1)), notesW (segW ws a E[i])⟩]) ⟨by dsimp only; omega, by dsimp only; simp [hLi], ?_, by dsimp only; rw [et]; exact o3⟩ (by dsimp only; omega)).sub (by repeat (first | exact trivial | refine ⟨has_rfl rfl, ?_⟩ | refine ⟨has_int rfl (by first | (simp only [List.length_append, List.length_singleton]; omega)), ?_⟩))
      dsimp only
      rw [et, ← hLs]
      simp only [lnGo, List.append_assoc, List.cons_append, List.nil_append, hlast]
  · have hd : E.drop i = [] := List.drop_of_length_le (by omega)
    rw [hd] at hLs
    simp only [lnGo, List.append_nil] at hLs
    rw [← hLs]
    (repeat (first | refine c_seq ?_ | refine c_reg ?_ | refine c_rnil ?_ | refine c_exit ?_ | refine c_false ?_ | refine c_op (by first | exact t_moveG | exact t_move | exact t_assignG | exact t_lssF | exact t_len | fail) ?_ | fail))
    refine c_ret1 Tryd.func34 rfl ?_
    exact fun h => h
end Go.Proofs.YtedlipgopicijaaDoor
end

section
namespace Go.Proofs.YtedlipgopicijaaDoor
open Go Go.RowKit
theorem wErr_ok {w : Wd} {nx n : Int} (h : wErr w nx n = 0) : 0 < widM w.s ∧ (w.key = emp ∨ 0 < widM w.key) ∧ (w.table = 0 ∨ w.table = 1) ∧ (w.note = 0 ∨ (w.note = nx ∧ w.note ≤ n)) := by
  unfold wErr at h
  split at h
  · cases h
  · rename_i h1
    split at h
    · cases h
    · rename_i h2
      split at h
      · cases h
      · rename_i h3
        refine ⟨Classical.byContradiction fun c => h1 (.inl c), ?_, by omega, ?_⟩
        · by_cases hk : w.key = emp
          · exact .inl hk
          · exact .inr (Classical.byContradiction fun c => h1 (.inr ⟨hk, c⟩))
        · by_cases h0 : w.note = 0
          · exact .inl h0
          · refine .inr ⟨Classical.byContradiction fun c => h3 ⟨h0, .inl c⟩, ?_⟩
            by_cases hn : n < w.note
            · exact absurd ⟨h0, .inr hn⟩ h3
            · omega
theorem chkP_ok {n : Int} {K : Int → Int} : ∀ {l : List Wd} {next : Int}, 1 ≤ next → chkP n K l next = 0 → (∀ w ∈ l, ∃ nx, 1 ≤ nx ∧ wErr w nx n = 0) ∧ ∃ nx, 1 ≤ nx ∧ K nx = 0
  | [], next, h1, h => ⟨(fun w hw => by cases hw), next, h1, h⟩
  | w :: r, next, h1, h => by
    simp only [chkP] at h
    by_cases he : wErr w next n = 0
    · rw [if_neg (fun c => c he)] at h
      have h2 : 1 ≤ (if w.note ≠ 0 then next + 1 else next) := by split <;> omega
      obtain ⟨k1, k2⟩ := chkP_ok h2 h
      exact ⟨fun x hx => by
        rcases List.mem_cons.1 hx with rfl | hx
        · exact ⟨next, h1, he⟩
        · exact k1 x hx, k2⟩
    · rw [if_pos he] at h
      exact absurd h he
theorem chkA_ok {n : Int} {K : Int → Int} : ∀ {l : List (List Wd)} {next : Int}, 1 ≤ next → chkA n K l next = 0 → (∀ p ∈ l, ∀ w ∈ p, ∃ nx, 1 ≤ nx ∧ wErr w nx n = 0) ∧ ∃ nx, 1 ≤ nx ∧ K nx = 0
  | [], next, h1, h => ⟨(fun w hw => by cases hw), next, h1, h⟩
  | p :: r, next, h1, h => by
    simp only [chkA] at h
    obtain ⟨k1, nx, k2, k3⟩ := chkP_ok h1 h
    obtain ⟨k4, k5⟩ := chkA_ok k2 k3
    exact ⟨fun q hq => by
      rcases List.mem_cons.1 hq with rfl | hq
      · exact k1
      · exact k4 q hq, k5⟩
theorem chkQ_ok {K : Int} : ∀ {l : List Wd}, chkQ K l = 0 → (∀ w ∈ l, wErr w 0 0 = 0) ∧ K = 0
  | [], h => ⟨(fun w hw => by cases hw), h⟩
  | w :: r, h => by
    simp only [chkQ] at h
    by_cases he : wErr w 0 0 = 0
    · rw [if_neg (fun c => c he)] at h
      obtain ⟨k1, k2⟩ := chkQ_ok h
      exact ⟨fun x hx => by
        rcases List.mem_cons.1 hx with rfl | hx
        · exact he
        · exact k1 x hx, k2⟩
    · rw [if_pos he] at h
      exact absurd h he
theorem chkB_ok {K : Int} : ∀ {l : List (List Wd)}, chkB K l = 0 → (∀ p ∈ l, ∀ w ∈ p, wErr w 0 0 = 0) ∧ K = 0
  | [], h => ⟨(fun w hw => by cases hw), h⟩
  | p :: r, h => by
    simp only [chkB] at h
    obtain ⟨k1, k2⟩ := chkQ_ok h
    obtain ⟨k4, k5⟩ := chkB_ok k2
    exact ⟨fun q hq => by
      rcases List.mem_cons.1 hq with rfl | hq
      · exact k1
      · exact k4 q hq, k5⟩
structure OKT (t : Tx) : Prop where
  np : t.paras.length ≤ 100
  nn : t.notes.length ≤ 100
  par : ∀ p ∈ t.paras, OKR p
  not : ∀ p ∈ t.notes, OKR p
theorem okt_of {t : Tx} (h : chkT t = 0) : OKT t := by
  unfold chkT at h
  by_cases hs : sizeM t = 0
  · rw [if_neg (fun c => c hs)] at h
    obtain ⟨s1, s2, s3⟩ := size_ok hs
    obtain ⟨k1, nx, _, k2⟩ := chkA_ok (by omega) h
    obtain ⟨k3, _⟩ := chkB_ok k2
    refine ⟨s1, s2, fun p hp => ⟨(s3 p (List.mem_append_left _ hp)).2, fun w hw => ?_, fun w hw => ?_⟩, fun p hp => ⟨(s3 p (List.mem_append_right _ hp)).2, fun w hw => ?_, fun w hw => ?_⟩⟩
    · obtain ⟨nx, q1, q2⟩ := k1 p hp w hw
      have := (wErr_ok q2).1
      omega
    · obtain ⟨nx, q1, q2⟩ := k1 p hp w hw
      have := (wErr_ok q2).2.2.2
      omega
    · have := (wErr_ok (k3 p hp w hw)).1
      omega
    · have := (wErr_ok (k3 p hp w hw)).2.2.2
      omega
  · rw [if_pos hs] at h
    exact absurd h hs
theorem lnGo_len (ws : List Wd) (first m : Int) : ∀ (l : List Int) (a : Int), (lnGo ws first m a l).length = l.length
  | [], a => rfl
  | e :: r, a => by simp [lnGo, lnGo_len ws first m r e]
theorem lnsM_len {ws : List Wd} {first m : Int} (h : OKR ws) (hm : 500 ≤ m) : (lnsM ws first m).length ≤ ws.length := by
  unfold lnsM
  rw [lnGo_len]
  have := ordEn_len (ends_ord hm h.ok)
  rw [widsW_len] at this
  omega
def bodyT (t : Tx) (m : Int) : List Line := bodyGo m 0 t.paras
def notesT (t : Tx) (m : Int) : List (List Line) := notesGo m (wordsN t.paras) t.notes
def errT (t : Tx) (m : Int) : Int := if chkT t ≠ 0 then chkT t else if m < 500 ∨ 2000 < m then 5 else 0
theorem wordsN_take {l : List (List Wd)} {i : Nat} (h : i < l.length) : wordsN (l.take (i + 1)) = wordsN (l.take i) + l[i].length := by
  unfold wordsN
  rw [List.take_succ_eq_append_getElem h, List.map_append, List.sum_append]; simp
theorem wordsN_le : ∀ {l : List (List Wd)}, (∀ p ∈ l, p.length ≤ 500) → wordsN l ≤ 500 * l.length
  | [], _ => by simp [wordsN]
  | p :: r, h => by
    have h1 := h p (by simp)
    have h2 := wordsN_le (l := r) (fun q hq => h q (by simp [hq]))
    have e : wordsN (p :: r) = p.length + wordsN r := by simp [wordsN]
    rw [e, List.length_cons]; omega
theorem wordsN_takeLe {l : List (List Wd)} (h : ∀ p ∈ l, p.length ≤ 500) (i : Nat) : wordsN (l.take i) ≤ 500 * l.length := by
  have h1 := wordsN_le (l := l.take i) (fun p hp => h p (List.mem_of_mem_take hp))
  have h2 : (l.take i).length ≤ l.length := by rw [List.length_take]; omega
  omega
set_option maxHeartbeats 8000000 in
theorem linesT_f {t : Tx} {m : Int} (h48 : (t.paras.length + t.notes.length) * 24 ≤ 140737488351232) :
    Fn Tryd.prog 11 [pV eText t, pI m] (pT3 (pSl eLine (if errT t m = 0 then bodyT t m else [])) (pSl (eSl eLine) (if errT t m = 0 then notesT t m else [])) (pI (errT t m))) := by
  refine fn_of ent11 Tryd.func11 rfl Tryd.ntmps11 rfl fun M0 w0 => ?_
  by_cases hc : chkT t = 0
  rotate_left
  · have e : errT t m = chkT t := by unfold errT; rw [if_pos hc]
    rw [e, if_neg hc, if_neg hc]
    (repeat (first | refine c_seq ?_ | refine c_reg ?_ | refine c_rnil ?_ | refine c_true ?_ | refine c_op (by first | exact t_call (h := (check25_f h48)) | exact t_move | exact t_assign | exact t_neqT | exact t_load | exact t_boxP | fail) ?_ | fail))
    refine c_ret3 Tryd.func11 rfl ?_
    exact fun h1 h2 h3 => ⟨_, _, _, rfl, by rw [show _ = _ from h1]; exact SlOf.nil _ _ _, by rw [show _ = _ from h2]; exact SlOf.nil _ _ _, h3⟩
  by_cases hm : m < 500 ∨ 2000 < m
  · have e : errT t m = 5 := by unfold errT; rw [if_neg (fun c => c hc), if_pos hm]
    rw [e, if_neg (by decide), if_neg (by decide)]
    by_cases hm1 : m < 500
    · (repeat (first | refine c_seq ?_ | refine c_reg ?_ | refine c_rnil ?_ | refine c_skip ?_ | refine c_true ?_ | refine c_false ?_ | refine c_no ?_ | refine c_op (by first | exact t_call (h := (check25_f h48)) | exact t_move | exact t_assign | exact t_pickT | exact t_lssT | exact t_neqF | exact t_load | exact t_boxP | fail) ?_ | fail))
      refine c_ret3 Tryd.func11 rfl ?_
      exact fun h1 h2 h3 => ⟨_, _, _, rfl, by rw [show _ = _ from h1]; exact SlOf.nil _ _ _, by rw [show _ = _ from h2]; exact SlOf.nil _ _ _, h3⟩
    · have hm2 : 2000 < m := by omega
      (repeat (first | refine c_seq ?_ | refine c_reg ?_ | refine c_rnil ?_ | refine c_skip ?_ | refine c_true ?_ | refine c_false ?_ | refine c_yes ?_ | refine c_op (by first | exact t_call (h := (check25_f h48)) | exact t_move | exact t_assign | exact t_pickF | exact t_lssF | exact t_gtrT | exact t_neqF | exact t_load | exact t_boxP | fail) ?_ | fail))
      refine c_ret3 Tryd.func11 rfl ?_
      exact fun h1 h2 h3 => ⟨_, _, _, rfl, by rw [show _ = _ from h1]; exact SlOf.nil _ _ _, by rw [show _ = _ from h2]; exact SlOf.nil _ _ _, h3⟩
  have e : errT t m = 0 := by unfold errT; rw [if_neg (fun c => c hc), if_neg hm]
  rw [e, if_pos rfl, if_pos rfl]
  have hok := okt_of hc
  have hm' : 500 ≤ m ∧ m ≤ 2000 := by omega
  have hnp := hok.np
  have hnn := hok.nn
  have hpl : ∀ p ∈ t.paras, p.length ≤ 500 := fun p hp => (hok.par p hp).len
  have hnl : ∀ p ∈ t.notes, p.length ≤ 500 := fun p hp => (hok.not p hp).len
  have hwp := wordsN_le hpl
  (repeat (first | refine c_seq ?_ | refine c_reg ?_ | refine c_rnil ?_ | refine c_block ?_ | refine c_skip ?_ | refine c_false ?_ | refine c_yes ?_ | refine c_op (by first | exact t_call (h := (check25_f h48)) | exact t_move | exact t_assign | exact t_pickF | exact t_lssF | exact t_gtrF | exact t_neqF | exact t_len | exact t_load | exact t_fa | exact t_boxP | fail) ?_ | fail))
  refine c_loop (fun x : Nat × List Line => [(1, .pu (pI m)), (2, .pu (pPtr eText t)), (8, .gr eLine x.2 1 42), (9, .pu (pv (.slice none 0 0))), (10, .pu (pI (wordsN (t.paras.take x.1)))), (27, .pu (pSl (eSl eWord) t.paras)), (28, .pu (pI t.paras.length)), (29, .pu (pI x.1))])
    (fun x => x.1 ≤ t.paras.length ∧ x.2.length ≤ wordsN (t.paras.take x.1) ∧ x.2 ++ bodyGo m (wordsN (t.paras.take x.1)) (t.paras.drop x.1) = bodyT t m) (fun x => t.paras.length - x.1) (0, []) ⟨by simp, by simp, rfl⟩ (by repeat (first | exact trivial | refine ⟨has_rfl rfl, ?_⟩ | refine ⟨has_nil rfl, ?_⟩ | fail)) ?_
  rintro ⟨i, L⟩ ⟨hi, hLl, hL⟩ ih
  dsimp only at hi hLl hL ih ⊢
  have hti := wordsN_takeLe hpl i
  by_cases hlt : i < t.paras.length
  · rw [List.drop_eq_getElem_cons hlt] at hL
    simp only [bodyGo] at hL
    have hokp := hok.par _ (List.getElem_mem hlt)
    have hpll := hokp.len
    have hts := wordsN_take hlt
    have hll := lnsM_len (first := (wordsN (t.paras.take i) : Nat)) hokp hm'.1
    (repeat (first | refine c_seq ?_ | refine c_reg ?_ | refine c_rnil ?_ | refine c_block ?_ | refine c_inBlock ?_ | refine c_skip ?_ | refine c_true ?_ | refine c_op (by first | exact t_call (h := (setL_f hm' (by omega) hokp)) | exact t_moveG | exact t_move | exact t_assignG | exact t_assign | exact t_add | exact t_lssT | exact t_len | exact t_idxN | exact t_load | fail) ?_ | refine c_opW t_app ?_ | fail))
    refine (ih (i + 1, L ++ lnsM t.paras[i] (wordsN (t.paras.take i) : Nat) m) ⟨by dsimp only; omega, by dsimp only; rw [List.length_append]; omega, ?_⟩ (by dsimp only; omega)).sub (by repeat (first | exact trivial | refine ⟨has_rfl rfl, ?_⟩ | refine ⟨has_int rfl (by first | (simp only [List.length_append, List.length_singleton]; omega)), ?_⟩))
    dsimp only
    rw [← hL, hts, List.append_assoc]
    rfl
  · have hd : t.paras.drop i = [] := List.drop_of_length_le (by omega)
    rw [hd] at hL
    simp only [bodyGo, List.append_nil] at hL
    have hti2 : t.paras.take i = t.paras := List.take_of_length_le (by omega)
    rw [hti2] at hLl ⊢
    (repeat (first | refine c_seq ?_ | refine c_reg ?_ | refine c_rnil ?_ | refine c_block ?_ | refine c_exit ?_ | refine c_false ?_ | refine c_op (by first | exact t_move | exact t_lssF | exact t_len | exact t_load | exact t_fa | fail) ?_ | fail))
    refine c_loop (fun x : Nat × List (List Line) => [(1, .pu (pI m)), (2, .pu (pPtr eText t)), (8, .gr eLine L 1 42), (9, .gr (eSl eLine) x.2 2 33), (10, .pu (pI (wordsN t.paras + wordsN (t.notes.take x.1) : Nat))), (45, .pu (pSl (eSl eWord) t.notes)), (46, .pu (pI t.notes.length)), (47, .pu (pI x.1))])
      (fun x => x.1 ≤ t.notes.length ∧ x.2.length = x.1 ∧ x.2 ++ notesGo m (wordsN t.paras + wordsN (t.notes.take x.1) : Nat) (t.notes.drop x.1) = notesT t m) (fun x => t.notes.length - x.1) (0, []) ⟨by simp, rfl, rfl⟩ (by repeat (first | exact trivial | refine ⟨has_rfl rfl, ?_⟩ | refine ⟨has_nil rfl, ?_⟩ | fail)) ?_
    rintro ⟨j, Ns⟩ ⟨hj, hNl, hN⟩ ih2
    dsimp only at hj hNl hN ih2 ⊢
    have htj := wordsN_takeLe hnl j
    by_cases hlj : j < t.notes.length
    · rw [List.drop_eq_getElem_cons hlj] at hN
      simp only [notesGo] at hN
      have hokp := hok.not _ (List.getElem_mem hlj)
      have hpll := hokp.len
      have hts := wordsN_take hlj
      (repeat (first | refine c_seq ?_ | refine c_reg ?_ | refine c_rnil ?_ | refine c_block ?_ | refine c_inBlock ?_ | refine c_skip ?_ | refine c_true ?_ | refine c_op (by first | exact t_call (h := (setL_f hm' (by omega) hokp)) | exact t_moveG | exact t_move | exact t_assignG | exact t_assign | exact t_add | exact t_lssT | exact t_len | exact t_idxN | exact t_load | exact t_bs | fail) ?_ | refine c_opW t_app ?_ | fail))
      refine (ih2 (j + 1, Ns ++ [lnsM t.notes[j] (wordsN t.paras + wordsN (t.notes.take j) : Nat) m]) ⟨by dsimp only; omega, by dsimp only; rw [List.length_append, List.length_singleton]; omega, ?_⟩ (by dsimp only; omega)).sub (by repeat (first | exact trivial | refine ⟨has_rfl rfl, ?_⟩ | refine ⟨has_int rfl (by first | (simp only [List.length_append, List.length_singleton]; omega)), ?_⟩))
      dsimp only
      rw [← hN, hts, List.append_assoc, ← Nat.add_assoc]
      rfl
    · have hd : t.notes.drop j = [] := List.drop_of_length_le (by omega)
      rw [hd] at hN
      simp only [notesGo, List.append_nil] at hN
      rw [← hL, ← hN]
      (repeat (first | refine c_seq ?_ | refine c_reg ?_ | refine c_rnil ?_ | refine c_exit ?_ | refine c_false ?_ | refine c_op (by first | exact t_moveG | exact t_assignG | exact t_assign | exact t_lssF | fail) ?_ | fail))
      refine c_ret3 Tryd.func11 rfl ?_
      exact fun h1 h2 h3 => ⟨_, _, _, rfl, h1, h2, h3⟩
end Go.Proofs.YtedlipgopicijaaDoor
end

section
namespace Go.Proofs.YtedlipgopicijaaDoor
open Go Go.RowKit
set_option maxHeartbeats 8000000 in
theorem linesTR_f {t : Tx} {m : Int} :
    Fn Tryd.prog 12 [pV eText t, pI m] (pT3 (pSl eLine (if errT t m = 0 then bodyT t m else [])) (pSl (eSl eLine) (if errT t m = 0 then notesT t m else [])) (pI (errT t m))) := by
  refine fn_of ent12 Tryd.func12 rfl Tryd.ntmps12 rfl fun M0 w0 => ?_
  by_cases hc : chkT t = 0
  rotate_left
  · have e : errT t m = chkT t := by unfold errT; rw [if_pos hc]
    rw [e, if_neg hc, if_neg hc]
    (repeat (first | refine c_seq ?_ | refine c_reg ?_ | refine c_rnil ?_ | refine c_true ?_ | refine c_op (by first | exact t_call (h := checkR_f) | exact t_move | exact t_assign | exact t_neqT | exact t_load | exact t_boxP | fail) ?_ | fail))
    refine c_ret3 Tryd.func12 rfl ?_
    exact fun h1 h2 h3 => ⟨_, _, _, rfl, by rw [show _ = _ from h1]; exact SlOf.nil _ _ _, by rw [show _ = _ from h2]; exact SlOf.nil _ _ _, h3⟩
  by_cases hm : m < 500 ∨ 2000 < m
  · have e : errT t m = 5 := by unfold errT; rw [if_neg (fun c => c hc), if_pos hm]
    rw [e, if_neg (by decide), if_neg (by decide)]
    by_cases hm1 : m < 500
    · (repeat (first | refine c_seq ?_ | refine c_reg ?_ | refine c_rnil ?_ | refine c_skip ?_ | refine c_true ?_ | refine c_false ?_ | refine c_no ?_ | refine c_op (by first | exact t_call (h := checkR_f) | exact t_move | exact t_assign | exact t_pickT | exact t_lssT | exact t_neqF | exact t_load | exact t_boxP | fail) ?_ | fail))
      refine c_ret3 Tryd.func12 rfl ?_
      exact fun h1 h2 h3 => ⟨_, _, _, rfl, by rw [show _ = _ from h1]; exact SlOf.nil _ _ _, by rw [show _ = _ from h2]; exact SlOf.nil _ _ _, h3⟩
    · have hm2 : 2000 < m := by omega
      (repeat (first | refine c_seq ?_ | refine c_reg ?_ | refine c_rnil ?_ | refine c_skip ?_ | refine c_true ?_ | refine c_false ?_ | refine c_yes ?_ | refine c_op (by first | exact t_call (h := checkR_f) | exact t_move | exact t_assign | exact t_pickF | exact t_lssF | exact t_gtrT | exact t_neqF | exact t_load | exact t_boxP | fail) ?_ | fail))
      refine c_ret3 Tryd.func12 rfl ?_
      exact fun h1 h2 h3 => ⟨_, _, _, rfl, by rw [show _ = _ from h1]; exact SlOf.nil _ _ _, by rw [show _ = _ from h2]; exact SlOf.nil _ _ _, h3⟩
  have e : errT t m = 0 := by unfold errT; rw [if_neg (fun c => c hc), if_neg hm]
  rw [e, if_pos rfl, if_pos rfl]
  have hok := okt_of hc
  have hm' : 500 ≤ m ∧ m ≤ 2000 := by omega
  have hnp := hok.np
  have hnn := hok.nn
  have hpl : ∀ p ∈ t.paras, p.length ≤ 500 := fun p hp => (hok.par p hp).len
  have hnl : ∀ p ∈ t.notes, p.length ≤ 500 := fun p hp => (hok.not p hp).len
  have hwp := wordsN_le hpl
  (repeat (first | refine c_seq ?_ | refine c_reg ?_ | refine c_rnil ?_ | refine c_block ?_ | refine c_skip ?_ | refine c_false ?_ | refine c_yes ?_ | refine c_op (by first | exact t_call (h := checkR_f) | exact t_move | exact t_assign | exact t_pickF | exact t_lssF | exact t_gtrF | exact t_neqF | exact t_load | exact t_boxP | fail) ?_ | fail))
  refine c_loop (fun x : Nat × List Line => [(1, .pu (pI m)), (2, .pu (pPtr eText t)), (8, .gr eLine x.2 1 42), (9, .pu (pI (wordsN (t.paras.take x.1)))), (10, .pu (pI x.1))])
    (fun x => x.1 ≤ t.paras.length ∧ x.2.length ≤ wordsN (t.paras.take x.1) ∧ x.2 ++ bodyGo m (wordsN (t.paras.take x.1)) (t.paras.drop x.1) = bodyT t m) (fun x => t.paras.length - x.1) (0, []) ⟨by simp, by simp, rfl⟩ (by repeat (first | exact trivial | refine ⟨has_rfl rfl, ?_⟩ | refine ⟨has_nil rfl, ?_⟩ | fail)) ?_
  rintro ⟨i, L⟩ ⟨hi, hLl, hL⟩ ih
  dsimp only at hi hLl hL ih ⊢
  have hti := wordsN_takeLe hpl i
  by_cases hlt : i < t.paras.length
  · rw [List.drop_eq_getElem_cons hlt] at hL
    simp only [bodyGo] at hL
    have hokp := hok.par _ (List.getElem_mem hlt)
    have hpll := hokp.len
    have hts := wordsN_take hlt
    have hll := lnsM_len (first := (wordsN (t.paras.take i) : Nat)) hokp hm'.1
    (repeat (first | refine c_seq ?_ | refine c_reg ?_ | refine c_rnil ?_ | refine c_block ?_ | refine c_inBlock ?_ | refine c_skip ?_ | refine c_true ?_ | refine c_op (by first | exact t_call (h := (linesR_f hm' (by omega) hokp)) | exact t_moveG | exact t_move | exact t_assignG | exact t_assign | exact t_add | exact t_lssT | exact t_len | exact t_idxN | exact t_load | exact t_fa | fail) ?_ | refine c_opW t_app ?_ | fail))
    refine (ih (i + 1, L ++ lnsM t.paras[i] (wordsN (t.paras.take i) : Nat) m) ⟨by dsimp only; omega, by dsimp only; rw [List.length_append]; omega, ?_⟩ (by dsimp only; omega)).sub (by repeat (first | exact trivial | refine ⟨has_rfl rfl, ?_⟩ | refine ⟨has_int rfl (by first | (simp only [List.length_append, List.length_singleton]; omega)), ?_⟩))
    dsimp only
    rw [← hL, hts, List.append_assoc]
    rfl
  · have hd : t.paras.drop i = [] := List.drop_of_length_le (by omega)
    rw [hd] at hL
    simp only [bodyGo, List.append_nil] at hL
    have hti2 : t.paras.take i = t.paras := List.take_of_length_le (by omega)
    rw [hti2] at hLl ⊢
    (repeat (first | refine c_seq ?_ | refine c_reg ?_ | refine c_rnil ?_ | refine c_block ?_ | refine c_exit ?_ | refine c_false ?_ | refine c_op (by first | exact t_move | exact t_assign | exact t_lssF | exact t_len | exact t_load | exact t_fa | fail) ?_ | fail))
    refine c_loop (fun x : Nat × List (List Line) => [(1, .pu (pI m)), (2, .pu (pPtr eText t)), (8, .gr eLine L 1 42), (11, .gr (eSl eLine) x.2 2 33), (9, .pu (pI (wordsN t.paras + wordsN (t.notes.take x.1) : Nat))), (12, .pu (pI x.1))])
      (fun x => x.1 ≤ t.notes.length ∧ x.2.length = x.1 ∧ x.2 ++ notesGo m (wordsN t.paras + wordsN (t.notes.take x.1) : Nat) (t.notes.drop x.1) = notesT t m) (fun x => t.notes.length - x.1) (0, []) ⟨by simp, rfl, rfl⟩ (by repeat (first | exact trivial | refine ⟨has_rfl rfl, ?_⟩ | refine ⟨has_nil rfl, ?_⟩ | fail)) ?_
    rintro ⟨j, Ns⟩ ⟨hj, hNl, hN⟩ ih2
    dsimp only at hj hNl hN ih2 ⊢
    have htj := wordsN_takeLe hnl j
    by_cases hlj : j < t.notes.length
    · rw [List.drop_eq_getElem_cons hlj] at hN
      simp only [notesGo] at hN
      have hokp := hok.not _ (List.getElem_mem hlj)
      have hpll := hokp.len
      have hts := wordsN_take hlj
      (repeat (first | refine c_seq ?_ | refine c_reg ?_ | refine c_rnil ?_ | refine c_block ?_ | refine c_inBlock ?_ | refine c_skip ?_ | refine c_true ?_ | refine c_op (by first | exact t_call (h := (linesR_f hm' (by omega) hokp)) | exact t_moveG | exact t_move | exact t_assignG | exact t_assign | exact t_add | exact t_lssT | exact t_len | exact t_idxN | exact t_load | exact t_fa | exact t_bs | fail) ?_ | refine c_opW t_app ?_ | fail))
      refine (ih2 (j + 1, Ns ++ [lnsM t.notes[j] (wordsN t.paras + wordsN (t.notes.take j) : Nat) m]) ⟨by dsimp only; omega, by dsimp only; rw [List.length_append, List.length_singleton]; omega, ?_⟩ (by dsimp only; omega)).sub (by repeat (first | exact trivial | refine ⟨has_rfl rfl, ?_⟩ | refine ⟨has_int rfl (by first | (simp only [List.length_append, List.length_singleton]; omega)), ?_⟩))
      dsimp only
      rw [← hN, hts, List.append_assoc, ← Nat.add_assoc]
      rfl
    · have hd : t.notes.drop j = [] := List.drop_of_length_le (by omega)
      rw [hd] at hN
      simp only [notesGo, List.append_nil] at hN
      rw [← hL, ← hN]
      (repeat (first | refine c_seq ?_ | refine c_reg ?_ | refine c_rnil ?_ | refine c_exit ?_ | refine c_false ?_ | refine c_op (by first | exact t_moveG | exact t_move | exact t_assignG | exact t_assign | exact t_lssF | exact t_len | exact t_load | exact t_fa | fail) ?_ | fail))
      refine c_ret3 Tryd.func12 rfl ?_
      exact fun h1 h2 h3 => ⟨_, _, _, rfl, h1, h2, h3⟩
end Go.Proofs.YtedlipgopicijaaDoor
end

section
namespace Go.Proofs.YtedlipgopicijaaDoor
open Go Go.RowKit
def nts (l : List Wd) : List Int := (l.filter fun w => decide (w.note ≠ 0)).map fun w => w.note
def seqI (a : Int) : Nat → List Int
  | 0 => []
  | c + 1 => a :: seqI (a + 1) c
theorem seqI_snoc : ∀ (c : Nat) (a : Int), seqI a (c + 1) = seqI a c ++ [a + c]
  | 0, a => by simp [seqI]
  | c + 1, a => by
    rw [seqI, seqI_snoc c (a + 1)]
    simp only [seqI, List.cons_append]
    congr 3
    omega
theorem nts_append (a b : List Wd) : nts (a ++ b) = nts a ++ nts b := by simp [nts]
theorem nts_none {l : List Wd} (h : ∀ w ∈ l, w.note = 0) : nts l = [] := by
  unfold nts
  rw [List.filter_eq_nil_iff.2 (fun w hw => by simp [h w hw])]
  rfl
structure VT (t : Tx) : Prop where
  np : 1 ≤ t.paras.length ∧ t.paras.length ≤ 4
  nn : t.notes.length ≤ 4
  len : ∀ p ∈ t.paras ++ t.notes, 1 ≤ p.length ∧ p.length ≤ 40
  par : ∀ p ∈ t.paras, ∀ w ∈ p, OKWd w
  not : ∀ p ∈ t.notes, ∀ w ∈ p, OKWd w ∧ w.note = 0
  seq : nts t.paras.flatten = seqI 1 t.notes.length
theorem fromGo_ge : ∀ (l : List Wd) (i f : Nat), f ≤ i → (∀ j (hj : j < l.length), fromGo l i f ≤ i + j → l[j].note = 0) ∧ (f ≤ fromGo l i f)
  | [], i, f, h => ⟨fun j hj => by simp at hj, by simp [fromGo]⟩
  | w :: r, i, f, h => by
    simp only [fromGo]
    obtain ⟨k1, k2⟩ := fromGo_ge r (i + 1) (if w.note ≠ 0 then i + 1 else f) (by split <;> omega)
    refine ⟨fun j hj hle => ?_, ?_⟩
    · cases j with
      | zero =>
        simp only [List.getElem_cons_zero]
        by_cases h0 : w.note = 0
        · exact h0
        · rw [if_pos h0] at k2 hle
          omega
      | succ j =>
        simp only [List.getElem_cons_succ]
        exact k1 j (by simpa using hj) (by omega)
    · by_cases h0 : w.note = 0
      · rw [if_neg (fun q => q h0)] at k2 ⊢
        exact k2
      · rw [if_pos h0] at k2 ⊢
        omega
theorem from_note {ws : List Wd} {j : Nat} (hj : j < ws.length) (h : fromM ws ≤ j) : ws[j].note = 0 := (fromGo_ge ws 0 0 (Nat.le_refl _)).1 j hj (by unfold fromM at h; omega)
theorem findK_spec {ps : List (List Wd)} : ∀ {f k j : Nat}, findK ps k f = some j → k + f ≤ ps.length → j < ps.length ∧ refOk ((ps[j]?).getD []) (lastM ps j) = true
  | 0, k, j, h, _ => by cases h
  | f + 1, k, j, h, hl => by
    simp only [findK] at h
    split at h
    · cases h
      exact ⟨by omega, by assumption⟩
    · exact findK_spec h (by omega)
theorem part_vt {n most : Int} (hn : 0 ≤ n) (hm : 1 ≤ most ∧ most ≤ 40) : 1 ≤ (partM n most).length ∧ (partM n most).length ≤ 40 ∧ ∀ w ∈ partM n most, OKWd w ∧ w.note = 0 := by
  have h1 := tmod_rng' (k := most) hn (by omega)
  unfold partM
  rw [partGo_len]
  exact ⟨by omega, by omega, partGo_ok _ _⟩
theorem noteStep_vt {t : Tx} (h : VT t) (hn : t.notes.length ≤ 3) {n : Int} (h0 : 0 ≤ n) : VT (noteStep t n) ∧ (noteStep t n).notes.length ≤ t.notes.length + 1 := by
  unfold noteStep
  split
  · exact ⟨h, by omega⟩
  · rename_i k hk
    obtain ⟨hkl, hro⟩ := findK_spec hk (by omega)
    obtain ⟨p1, p2, p3⟩ := part_vt h0 (most := 12) (by omega)
    have hget : (t.paras[k]?).getD [] = t.paras[k] := by rw [List.getElem?_eq_getElem hkl]; rfl
    rw [hget] at hro ⊢
    have hro2 : lastM t.paras k = false ∧ fromM t.paras[k] < t.paras[k].length := by
      unfold refOk at hro
      simpa using hro
    obtain ⟨hl, hf⟩ := hro2
    obtain ⟨a1, a2⟩ := refAt_lt h0 hf
    obtain ⟨q, hq⟩ : ∃ q, q = refAt t.paras[k] n := ⟨_, rfl⟩
    rw [← hq] at a1 a2
    have hmem : t.paras[k] ∈ t.paras := List.getElem_mem hkl
    have hw := h.par _ hmem _ (List.getElem_mem a2)
    obtain ⟨w', hw'⟩ : ∃ w', w' = ({ t.paras[k][q] with note := (t.notes.length : Int) + 1 } : Wd) := ⟨_, rfl⟩
    have hput : putRef t.paras[k] n ((t.notes.length : Int) + 1) = t.paras[k].set q w' := by
      unfold putRef
      rw [← hq, List.getElem?_eq_getElem a2, hw']
      rfl
    rw [hput]
    have hok' : OKWd w' := by rw [hw']; exact ⟨hw.s, hw.key, hw.table⟩
    have hset : ∀ p ∈ t.paras.set k (t.paras[k].set q w'), (p.length = t.paras[k].length ∧ ∀ w ∈ p, OKWd w) ∨ p ∈ t.paras := fun p hp => by
      rcases List.mem_or_eq_of_mem_set hp with hp | rfl
      · exact .inr hp
      · refine .inl ⟨by simp, fun w hw => ?_⟩
        rcases List.mem_or_eq_of_mem_set hw with hw | rfl
        · exact h.par _ hmem w hw
        · exact hok'
    have hlen0 := h.len _ (List.mem_append_left _ hmem)
    refine ⟨⟨by simpa using h.np, by simp; omega, fun p hp => ?_, fun p hp => ?_, fun p hp => ?_, ?_⟩, by simp⟩
    · rcases List.mem_append.1 hp with hp | hp
      · rcases hset p hp with ⟨e, _⟩ | hp
        · omega
        · exact h.len p (List.mem_append_left _ hp)
      · rcases List.mem_append.1 hp with hp | hp
        · exact h.len p (List.mem_append_right _ hp)
        · rw [List.mem_singleton.1 hp]; exact ⟨p1, p2⟩
    · rcases hset p hp with ⟨_, e⟩ | hp
      · exact e
      · exact h.par p hp
    · rcases List.mem_append.1 hp with hp | hp
      · exact h.not p hp
      · rw [List.mem_singleton.1 hp]; exact p3
    · have hseq := h.seq
      have e1 : t.paras = t.paras.take k ++ t.paras[k] :: t.paras.drop (k + 1) := by rw [← List.drop_eq_getElem_cons hkl, List.take_append_drop]
      have e2 : t.paras.set k (t.paras[k].set q w') = t.paras.take k ++ (t.paras[k].set q w') :: t.paras.drop (k + 1) := List.set_eq_take_append_cons_drop.trans (by rw [if_pos hkl])
      have hd : nts (t.paras.drop (k + 1)).flatten = [] := nts_none fun w hw => by
        obtain ⟨p, hp, hw⟩ := List.mem_flatten.1 hw
        unfold lastM at hl
        rw [List.any_eq_false] at hl
        have := hl p hp
        rw [Bool.not_eq_true, List.any_eq_false] at this
        have := this w hw
        simpa using this
      have e3 : t.paras[k] = t.paras[k].take q ++ t.paras[k][q] :: t.paras[k].drop (q + 1) := by rw [← List.drop_eq_getElem_cons a2, List.take_append_drop]
      have e4 : t.paras[k].set q w' = t.paras[k].take q ++ w' :: t.paras[k].drop (q + 1) := List.set_eq_take_append_cons_drop.trans (by rw [if_pos a2])
      have hd2 : nts (t.paras[k].drop (q + 1)) = [] := nts_none fun w hw => by
        obtain ⟨j, hj, rfl⟩ := List.mem_iff_getElem.1 hw
        rw [List.getElem_drop]
        rw [List.length_drop] at hj
        exact from_note (by omega) (by omega)
      have hn1 : nts [t.paras[k][q]] = [] := nts_none fun w hw => by rw [List.mem_singleton.1 hw]; exact from_note a2 a1
      have hn2 : nts [w'] = [(t.notes.length : Int) + 1] := by
        rw [hw']
        unfold nts
        have : ¬ ((t.notes.length : Int) + 1 = 0) := by omega
        simp [this]
      have f1 : nts t.paras.flatten = nts (t.paras.take k).flatten ++ nts (t.paras[k].take q) := by
        conv => lhs; rw [e1]
        rw [List.flatten_append, List.flatten_cons, nts_append, nts_append, hd, List.append_nil]
        conv => lhs; rw [e3]
        rw [nts_append, show t.paras[k][q] :: t.paras[k].drop (q + 1) = [t.paras[k][q]] ++ t.paras[k].drop (q + 1) from rfl, nts_append, hn1, hd2]
        simp
      have f2 : nts (t.paras.set k (t.paras[k].set q w')).flatten = nts (t.paras.take k).flatten ++ nts (t.paras[k].take q) ++ [(t.notes.length : Int) + 1] := by
        rw [e2, List.flatten_append, List.flatten_cons, nts_append, nts_append, hd, List.append_nil, e4, nts_append, show w' :: t.paras[k].drop (q + 1) = [w'] ++ t.paras[k].drop (q + 1) from rfl, nts_append, hn2, hd2]
        simp
      rw [f2, ← f1, hseq, List.length_append, List.length_singleton, seqI_snoc]
      congr 2
      omega
theorem textN_vt (l : List Int) : ∀ c, c ≤ 3 → VT (textN l c) ∧ (textN l c).notes.length ≤ c
  | 0, _ => by
    have hc0 := pickM_bd l 0 4 (by omega)
    have hpar : ∀ p ∈ paras0 l, 1 ≤ p.length ∧ p.length ≤ 40 ∧ ∀ w ∈ p, OKWd w ∧ w.note = 0 := fun p hp => by
      obtain ⟨j, _, rfl⟩ := List.mem_map.1 hp
      exact part_vt (pickM_bd l (2 + j) 1000000 (by omega)).1 (by omega)
    have hlen : (paras0 l).length = (pickM l 0 4).toNat + 1 := by simp [paras0]
    refine ⟨⟨?_, Nat.zero_le _, fun p hp => ?_, fun p hp w hw => ((hpar p hp).2.2 w hw).1, (fun p hp => by cases hp), ?_⟩, Nat.le_refl _⟩
    · show 1 ≤ (paras0 l).length ∧ (paras0 l).length ≤ 4
      omega
    · have hp' : p ∈ paras0 l := by
        have : p ∈ paras0 l ++ [] := hp
        simpa using this
      have := hpar p hp'
      omega
    · exact nts_none fun w hw => by
        obtain ⟨p, hp, hw⟩ := List.mem_flatten.1 hw
        exact ((hpar p hp).2.2 w hw).2
  | c + 1, hc => by
    obtain ⟨h1, h2⟩ := textN_vt l c (by omega)
    rw [textN_succ]
    obtain ⟨h3, h4⟩ := noteStep_vt h1 (by omega) (pickM_bd l (6 + c) 1000000 (by omega)).1
    exact ⟨h3, by omega⟩
theorem textM_vt (l : List Int) : VT (textM l) := by
  have hc1 := pickM_bd l 1 4 (by omega)
  exact (textN_vt l _ (by omega)).1
end Go.Proofs.YtedlipgopicijaaDoor
end

section
namespace Go.Proofs.YtedlipgopicijaaDoor
def refs (body : List Line) : List Int := body.flatMap (·.notes)
end Go.Proofs.YtedlipgopicijaaDoor
end

section
namespace Go.Proofs.YtedlipgopicijaaDoor
open Go Go.RowKit
end Go.Proofs.YtedlipgopicijaaDoor
end

section
namespace Go.Proofs.YtedlipgopicijaaDoor
open Go Go.RowKit
end Go.Proofs.YtedlipgopicijaaDoor
end

section
namespace Go.Proofs.YtedlipgopicijaaDoor
open Go Go.RowKit
abbrev ptr (b : Nat) : Value := .pointer (some ⟨b, 0, none⟩)
structure Vars (M : Mut) (w : World) (bb bh bq bl bs br : Nat) (vb vq : Value) (h n s : Int) : Prop where
  body : Box M w bb 3 [vb] 33
  height : Box M w bh 5 [.int .i64 h] 3
  queue : Box M w bq 10 [vq] 33
  lines : Box M w bl 11 [.int .i64 n] 3
  shown : Box M w bs 12 [.int .i64 s] 3
  room : Box M w br 13 [.func (.func 43) #[] #[ptr bh, ptr bl, ptr bs]] 76
end Go.Proofs.YtedlipgopicijaaDoor
end

section
namespace Go.Proofs.YtedlipgopicijaaDoor
open Go Go.RowKit
structure PgJ (M0 : Mut) (w0 : World) (h : Int) (notes : List (List Line)) (vn : Value) (bb bh bq : Nat) (M : Mut) (w : World) (body q : List Line) (ps : List Pg) (vb vq vp : Value) : Prop where
  rn : Rn M0 w0 M w
  bb : Box M w bb 3 [vb] 33
  bh : Box M w bh 5 [.int .i64 h] 3
  bq : Box M w bq 10 [vq] 33
  sb : SlOf eLine M w vb body
  sq : SlOf eLine M w vq q
  gq : Grow w0.heap.size M w vq q.length 4 4 42
  sp : SlOf ePg M w vp ps
  gp : Grow w0.heap.size M w vp ps.length 6 9 57
  sn : SlOf (eSl eLine) M w vn notes
  hr : ∀ i ∈ refs body, 0 ≤ i ∧ i < notes.length
structure FS where
  n : Int
  s : Int
  q : List Line
  vq : Value
  M : Mut
structure LS where
  f : Nat
  body : List Line
  q : List Line
  ps : List Pg
  vb : Value
  vq : Value
  vp : Value
  M : Mut
end Go.Proofs.YtedlipgopicijaaDoor
end

section
namespace Go.Proofs.YtedlipgopicijaaDoor
open Go Go.RowKit
theorem pg_len {M : Mut} {w : World} {v : Value} {l : List Line} (h : SlOf eLine M w v l) : (l.length : Int) ≤ 2199023255552 := by
  have := h.bytes
  have e : eLine.by_ = 64 := rfl
  rw [e] at this
  omega
end Go.Proofs.YtedlipgopicijaaDoor
end

section
namespace Go.Proofs.YtedlipgopicijaaDoor
open Go Go.RowKit
end Go.Proofs.YtedlipgopicijaaDoor
end

section
namespace Go.Proofs.YtedlipgopicijaaDoor
open Go Go.RowKit
end Go.Proofs.YtedlipgopicijaaDoor
end

section
namespace Go.Proofs.YtedlipgopicijaaDoor
open Go Go.RowKit
structure SlBg (M : Mut) (w : World) (v : Value) (l : List Int) : Prop where
  ex : ∃ a cap, v = .slice a l.length cap ∧ l.length ≤ cap ∧ cap ≤ maxLen ∧ (a = none → cap = 0) ∧ ∀ ad, a = some ad → ∀ (i : Nat) (hi : i < l.length), Elem eI M w (ad.add (i * eI.sz)) l[i]
section
variable {P : Program} {N : Nat} {fr : Fr} {w : World} {Ψ : Value → World → Prop} {d : Option Tmp} {ty : TypeId} {pos : String} {aft : Array Edge} {g : Option (Nat × Bool)}
end
structure OKB (body : List Line) (notes : List (List Line)) : Prop where
  lb : body.length ≤ 60
  ln : notes.length ≤ 2 * body.length
  nn : ∀ x ∈ notes, x ≠ [] ∧ x.length ≤ 9
  rf : refs body = (List.range notes.length).map fun (i : Nat) => (i : Int)
structure LJ (M0 : Mut) (w0 : World) (v : Value) (l : List Int) (M : Mut) (w : World) (body : List Line) (notes : List (List Line)) (vb vn : Value) : Prop where
  rn : Rn M0 w0 M w
  sl : SlBg M w v l
  sb : SlOf eLine M w vb body
  gb : Grow w0.heap.size M w vb body.length 4 1 42
  sn : SlOf (eSl eLine) M w vn notes
  gn : Grow w0.heap.size M w vn notes.length 1 2 33
structure XJ (B : Nat) (M : Mut) (w : World) (bx : Nat) (n : Int) (vx : Value) (ns : List Int) : Prop where
  box : Box M w bx 3 [.int .i64 n, .int .i64 (n + 1), .slice none 0 0, vx] 42
  sx : SlOf eI M w vx ns
  gx : Grow B M w vx ns.length 1 4 3
structure OS where
  i : Nat
  body : List Line
  notes : List (List Line)
  vb : Value
  vn : Value
  M : Mut
structure KS where
  k : Nat
  ns : List Int
  notes : List (List Line)
  vx : Value
  vn : Value
  M : Mut
structure NS where
  note : List Line
  vo : Value
  M : Mut
end Go.Proofs.YtedlipgopicijaaDoor
end

section
namespace Go.Proofs.YtedlipgopicijaaDoor
open Go Go.RowKit
end Go.Proofs.YtedlipgopicijaaDoor
end

section
namespace Go.Proofs.YtedlipgopicijaaDoor
end Go.Proofs.YtedlipgopicijaaDoor
end

section
namespace Go.Proofs.YtedlipgopicijaaDoor
open Go Go.RowKit
end Go.Proofs.YtedlipgopicijaaDoor
end

section
namespace Go.Proofs.YtedlipgopicijaaDoor
end Go.Proofs.YtedlipgopicijaaDoor
end

section
namespace Go.Proofs.YtedlipgopicijaaDoor
open Go Go.RowKit
end Go.Proofs.YtedlipgopicijaaDoor
end

section
namespace Go.Proofs.YtedlipgopicijaaDoor
end Go.Proofs.YtedlipgopicijaaDoor
end

section
namespace Go.Proofs.YtedlipgopicijaaDoor
open Go Go.RowKit
section
variable {P : Program} {N : Nat} {fr : Fr} {w : World} {Ψ : Value → World → Prop} {d : Option Tmp} {ty : TypeId} {pos : String} {aft : Array Edge} {g : Option (Nat × Bool)}
end
end Go.Proofs.YtedlipgopicijaaDoor
end

section
namespace Go.Proofs.YtedlipgopicijaaDoor
end Go.Proofs.YtedlipgopicijaaDoor
end

section
namespace Go.Proofs.YtedlipgopicijaaDoor
end Go.Proofs.YtedlipgopicijaaDoor
end

section
namespace Go.Proofs.YtedlipgopicijaaDoor
open Go Go.RowKit
section
variable {N : Nat} {fr : Fr} {w : World} {Ψ : Value → World → Prop} {d : Option Tmp} {ty : TypeId} {pos : String} {aft : Array Edge} {g : Option (Nat × Bool)}
end
end Go.Proofs.YtedlipgopicijaaDoor
end

section
namespace Go.Proofs.YtedlipgopicijaaDoor
open Go Go.RowKit
end Go.Proofs.YtedlipgopicijaaDoor
end

section
namespace Go.Proofs.YtedlipgopicijaaDoor
open Go Go.RowKit
end Go.Proofs.YtedlipgopicijaaDoor
end

section
namespace Go.Proofs.YtedlipgopicijaaDoor
open Go Go.RowKit
end Go.Proofs.YtedlipgopicijaaDoor
end

section
namespace Go.Proofs.YtedlipgopicijaaDoor
end Go.Proofs.YtedlipgopicijaaDoor
end

section
namespace Go.Proofs.YtedlipgopicijaaDoor
open Go Go.RowKit
section
variable {P : Program} {N : Nat} {G : TF} {d : Option Tmp} {ty : TypeId} {pos : String} {aft : Array Edge} {g : Option (Nat × Bool)}
end
instance : FOc Tryd.prog 57 3 4 := ⟨fdP3⟩
instance : FOc Tryd.prog 57 4 5 := ⟨fdP4⟩
instance : T1c Tryd.prog 33 := ⟨24, _, tdSL⟩
end Go.Proofs.YtedlipgopicijaaDoor
end

section
namespace Go.Proofs.YtedlipgopicijaaDoor
open Go Go.RowKit
end Go.Proofs.YtedlipgopicijaaDoor
end

section
namespace Go.Proofs.YtedlipgopicijaaDoor
open Go Go.RowKit
theorem VT.h48 {t : Tx} (h : VT t) : (t.paras.length + t.notes.length) * 24 ≤ 140737488351232 := by
  have h1 := h.np
  have h2 := h.nn
  omega
theorem textV_f {l : List Int} : Fn Tryd.prog 8 [pSl eI l] (pV eText (textM l)) := text_f.fn
end Go.Proofs.YtedlipgopicijaaDoor
end

section
namespace Go.Proofs.YtedlipgopicijaaDoor
open Go Go.RowKit
set_option maxHeartbeats 1000000 in
theorem sameL_f {l : List Line} : Fn Tryd.prog 13 [pSl eLine l, pSl eLine l] (pB true) := by
  refine fn_of ent13 Tryd.func13 rfl Tryd.ntmps13 rfl fun M0 w0 => ?_
  (repeat (first | refine c_seq ?_ | refine c_reg ?_ | refine c_rnil ?_ | refine c_block ?_ | refine c_skip ?_ | refine c_false ?_ | refine c_op (by first | exact t_move | exact t_assign | exact t_neqF | exact t_len | fail) ?_ | fail))
  refine c_have 0 (fun h => pg_len h) fun hpl => ?_
  refine c_loop (fun i : Nat => [(0, .pu (pSl eLine l)), (1, .pu (pSl eLine l)), (5, .pu (pI i))])
    (fun i => i ≤ l.length) (fun i => l.length - i) 0 (by omega) (by repeat (first | exact trivial | refine ⟨has_rfl rfl, ?_⟩ | fail)) fun i hi ih => ?_
  (repeat (first | refine c_seq ?_ | refine c_reg ?_ | refine c_rnil ?_ | refine c_op (by first | exact t_move | exact t_lss | exact t_len | fail) ?_ | fail))
  refine c_if (fun hlt => ?_) fun hge => ?_
  · have hlt' : i < l.length := by omega
    (repeat (first | refine c_seq ?_ | refine c_block ?_ | refine c_skip ?_ | fail))
    refine c_draw0 mixed (by kernel_rfl) ?_
    (repeat (first | refine d_op (by first | exact t_call (h := same_v) | exact t_move | exact t_assign | exact t_idxN | exact t_load | exact t_fa | fail) ?_ | fail))
    refine d_nil (q_nil ?_ (by kernel_rfl))
    (repeat (first | refine c_seq ?_ | fail))
    refine c_draw0 mixed (by kernel_rfl) ?_
    (repeat (first | refine d_op (by first | exact t_call (h := same_v) | exact t_move | exact t_assign | exact t_idxN | exact t_load | exact t_fa | fail) ?_ | fail))
    refine d_nil (q_nil ?_ (by kernel_rfl))
    (repeat (first | refine c_seq ?_ | fail))
    refine c_draw0 mixed (by kernel_rfl) ?_
    (repeat (first | refine d_op (by first | exact t_move | exact t_pickF | exact t_neqF | exact t_idxN | exact t_load | exact t_fa | fail) ?_ | refine d_yes (by first | exact t_move | exact t_not | exact t_neqF | exact t_idxN | exact t_load | exact t_fa | fail) ?_ | fail))
    refine d_nil (q_nil ?_ (by kernel_rfl))
    (repeat (first | refine c_reg ?_ | refine c_rnil ?_ | refine c_inBlock ?_ | refine c_skip ?_ | refine c_false ?_ | refine c_op (by first | exact t_move | exact t_assign | exact t_add | fail) ?_ | fail))
    exact (ih (i + 1) (by omega) (by omega)).sub (by repeat (first | exact trivial | refine ⟨has_rfl rfl, ?_⟩ | fail))
  · (repeat (first | refine c_seq ?_ | refine c_reg ?_ | refine c_rnil ?_ | refine c_exit ?_ | refine c_op (by first | exact t_assign | fail) ?_ | fail))
    refine c_ret1 Tryd.func13 rfl ?_
    exact fun h => h
def Mut.clr (B : Nat) (W : List Nat) (M : Mut) : Mut := fun b => match M b with
  | some p => if B ≤ b ∧ p.2 ∈ W then none else some p
  | none => none
theorem clr_le {B : Nat} {W : List Nat} {M : Mut} {b : Nat} {p : Nat × Nat} (h : M.clr B W b = some p) : M b = some p := by
  unfold Mut.clr at h
  split at h
  · rename_i q hq
    split at h
    · cases h
    · rw [hq]; exact h
  · cases h
theorem clr_none {B : Nat} {W : List Nat} {M : Mut} {b k tag : Nat} (h : M b = some (k, tag)) (hB : B ≤ b) (ht : tag ∈ W) : M.clr B W b = none := by
  unfold Mut.clr
  rw [h]
  exact if_pos ⟨hB, ht⟩
theorem StW.clr (B : Nat) (W : List Nat) (M : Mut) (w : World) : StW B W M w (M.clr B W) w := by
  refine ⟨⟨fun a v c => ⟨c.1, fun p hp => c.2 p (clr_le hp)⟩⟩, fun hm b hb => ?_, fun b hb => ?_, Below.refl _ _, fun b p hp hT _ => ⟨?_, rfl⟩⟩
  · unfold Mut.clr
    rw [hm b hb]
  · unfold Mut.clr
    split
    · rename_i q hq
      rw [if_neg (by omega), hq]
    · rename_i hq
      rw [hq]
  · unfold Mut.clr
    rw [hp]
    exact if_neg (fun h => hT h.2)
structure TxR where
  ps : List Value
  ns : List Value
def eTxR : Enc TxR := ((eSl eRaw).app (eSl eRaw)).via (fun t => (t.ps, t.ns)) 48 (by decide)
theorem teTxR : TEc Tryd.prog 25 eTxR := ⟨_, rfl, tdT⟩
theorem teSRaw : TEc Tryd.prog 23 (eSl eRaw) := ⟨_, rfl, tdSSW⟩
theorem y0l : Lens eTxR 0 (eSl eRaw) TxR.ps (fun x y => { x with ps := y }) := ((Lens.id (eSl eRaw)).left _).via _ _
theorem y0f : FDc Tryd.prog 25 0 eTxR (eSl eRaw) TxR.ps (fun x y => { x with ps := y }) := y0l.fd fdT0
section
variable {N : Nat} {G : TF} {d : Option Tmp} {ty : TypeId} {pos : String} {aft : Array Edge} {g : Option (Nat × Bool)}
theorem t_faR0 {x : Operand} {a b : List Value} (hx : topP G x = some (pPtr eTxR ⟨a, b⟩) := by rfl) : TOp Tryd.prog N ⟨d, .fieldAddr 25 x 0, ty, pos, aft, g⟩ G [] (.pu (pPtr (eSl eRaw) a)) := t_fa hx y0f
theorem t_ldSRaw {x : Operand} {l : List Value} (hx : topP G x = some (pPtr (eSl eRaw) l) := by rfl) : TOp Tryd.prog N ⟨d, .load 23 x, ty, pos, aft, g⟩ G [] (.pu (pSl eRaw l)) := t_load hx teSRaw inferInstance
theorem t_idxRaw {x i : Operand} {rows : List RowD} {k : IntKind} {n : Nat} (hx : topP G x = some (pSl eRaw (rows.map RowD.v)) := by rfl) (hi : topP G i = some (pK k (n : Int)) := by rfl) (hn : n < rows.length := by omega) :
    TOp Tryd.prog N ⟨d, .indexAddr 23 x i, ty, pos, aft, g⟩ G [] (.pu (pPtr eRaw (rows[n]'hn).v)) := by
  have := t_idxN (P := Tryd.prog) (N := N) (t := 23) (e := 27) (d := d) (ty := ty) (pos := pos) (aft := aft) (g := g) hx hi inferInstance teRaw (by rw [List.length_map]; exact hn)
  simpa using this
theorem t_lenRow {x : Operand} {r : RowD} (hx : topP G x = some (pv r.v) := by rfl) (hn : r.ws.length ≤ 9223372036854775807 := by omega) : TOp Tryd.prog N ⟨d, .call ⟨.builtin .len, #[x], #[27]⟩, ty, pos, aft, g⟩ G [] (.pu (pI r.ws.length)) := .pure [x] (by simp [Op.operands, Call.operands]) fun hf => by
  obtain ⟨v, h0, rfl⟩ := hf.op hx (by simp)
  exact op_lenv Tryd.underlying27 h0 ⟨rfl, rfl, rng64 (by omega)⟩
theorem t_idxRow {x i : Operand} {r : RowD} {k : IntKind} {n : Nat} (hx : topP G x = some (pv r.v) := by rfl) (hi : topP G i = some (pK k (n : Int)) := by rfl) (hn : n < r.ws.length := by omega) :
    TOp Tryd.prog N ⟨d, .indexAddr 27 x i, ty, pos, aft, g⟩ G [] (.pu (pCe r.b (r.off + n * 4))) := .pure [x, i] (by simp [Op.operands]) fun hf => by
  obtain ⟨_, h0, rfl⟩ := hf.op hx (by simp)
  obtain ⟨_, h2, rfl, _⟩ := hf.op hi (by simp)
  exact op_idxRow h0 h2 (by omega) ⟨rfl, by rw [Int.toNat_natCast]; rfl⟩
theorem t_idxRowE {x i : Operand} {r : RowD} {k : IntKind} {m : Int} {n : Nat} (hm : m = n) (hx : topP G x = some (pv r.v) := by rfl) (hi : topP G i = some (pK k m) := by rfl) (hn : n < r.ws.length := by omega) :
    TOp Tryd.prog N ⟨d, .indexAddr 27 x i, ty, pos, aft, g⟩ G [] (.pu (pCe r.b (r.off + n * 4))) := by
  subst hm
  exact t_idxRow hx hi hn
theorem rows_set {B tag : Nat} {M : Mut} {w w' : World} {rows : List RowD} {i n : Nat} {x : Wd} (hi : i < rows.length) (h : (rowsG tag rows).p B M w undef) (h1 : RowOk B M w' tag (rows[i].put n x)) (h3 : ∀ b, b ≠ rows[i].b → w'.heap[b]? = w.heap[b]?) : (rowsG tag (rows.set i (rows[i].put n x))).p B M w' undef := by
  obtain ⟨h4, h5⟩ := h
  refine ⟨fun r hr' => ?_, ?_⟩
  · obtain ⟨j, hj, rfl⟩ := List.mem_iff_getElem.1 hr'
    rw [List.length_set] at hj
    rw [List.getElem_set]
    split
    · exact h1
    · rename_i hne
      have hokj := h4 _ (List.getElem_mem hj)
      have hb : rows[j].b ≠ rows[i].b := fun e => by
        have hnd := List.pairwise_iff_getElem.1 h5
        rcases Nat.lt_or_ge i j with hlt | hge
        · exact hnd i j (by simpa using hi) (by simpa using hj) hlt (by simp [e])
        · exact hnd j i (by simpa using hj) (by simpa using hi) (by omega) (by simp [e])
      exact ⟨hokj.ge, hokj.at_.same (h3 _ hb), hokj.mark⟩
  · have e : (rows.set i (rows[i].put n x)).map RowD.b = rows.map RowD.b := by
      apply List.ext_getElem (by simp)
      intro j h1 h2
      simp only [List.getElem_map, List.getElem_set]
      split
      · rename_i e; subst e; rfl
      · rfl
    rw [e]
    exact h5
theorem t_stRow {t by' f : Nat} {z : List Value} {x y : Operand} {p : Pub} {i n tag : Nat} {rows : List RowD} {r : RowD} {x' : Wd} (kr : Nat) (hT : TD Tryd.prog t 1 by' false z) (hf4 : f < 4) (hi : rows[i]? = some r) (hn : n < r.ws.length) (hx : topP G x = some (pCe r.b (r.off + n * 4 + f)))
    (hy : topP G y = some p) (hp : ∀ {M : Mut} {w : World} {u : Value}, p.p M w u → u.oneCell' = true ∧ ∀ (w' : World) cs, eWord.R (fun _ => none) w' cs (r.ws[n]'hn) → eWord.R (fun _ => none) w' (splice cs f [u]) x') (hg : tlook G kr = some (.gh (rowsG tag rows))) :
    TOp Tryd.prog N ⟨d, .store t x y, ty, pos, aft, g⟩ G [tag] (.gh (rowsG tag (rows.set i (r.put n x')))) := ⟨[x, y], by simp [Op.operands], fun {M0 w0 M w fr} hrn hf => by
  obtain ⟨hlt, rfl⟩ := List.getElem?_eq_some_iff.1 hi
  obtain ⟨_, h0, rfl⟩ := hf.op hx (by simp)
  obtain ⟨u, h1, h2⟩ := hf.op hy (by simp)
  have h3 := hf.out kr _ hg (.inl rfl)
  obtain ⟨q1, q2⟩ := hp h2
  refine op_stRow hT h0 h1 q1 hn (h3.1 _ (List.getElem_mem hlt)) hf4 (q2 w) fun w' k1 k2 k3 => ?_
  exact ⟨M, StW.st k2, rows_set hlt h3 k1 k3⟩⟩
theorem t_stRowS {x y : Operand} {i n tag : Nat} {s : ByteArray} {rows : List RowD} {r : RowD} (kr : Nat) (hi : rows[i]? = some r) (hn : n < r.ws.length) (hx : topP G x = some (pCe r.b (r.off + n * 4 + 0)) := by rfl)
    (hy : topP G y = some (pS s) := by rfl) (hg : tlook G kr = some (.gh (rowsG tag rows)) := by rfl) :
    TOp Tryd.prog N ⟨d, .store 9 x y, ty, pos, aft, g⟩ G [tag] (.gh (rowsG tag (rows.set i (r.put n { r.ws[n]'hn with s := s })))) :=
  t_stRow kr tdStr (by decide) hi hn hx hy (fun {M w u} ⟨e, h2⟩ => by subst e; exact ⟨rfl, fun w' cs hR => w0l.set hR ⟨rfl, h2⟩⟩) hg
theorem t_callTx {f : FuncId} {args : List Operand} {argT : Array TypeId} {Ps : List Pub} {t : Tx} (tag : Nat) (h : FnTx Tryd.prog f Ps t) (ha : topPs G args = some Ps := by rfl) :
    TOpE Tryd.prog N ⟨d, .call ⟨.value (.func f), args.toArray, argT⟩, ty, pos, aft, g⟩ G [] (fun x : { x : List RowD × List RowD // x.1.map RowD.ws = t.paras ∧ x.2.map RowD.ws = t.notes } => .pu (pV eTxR ⟨x.1.1.map RowD.v, x.1.2.map RowD.v⟩)) (fun x => .gh (rowsG tag (x.1.1 ++ x.1.2))) :=
  ⟨args, (by simp [Op.operands, Call.operands]; intro x hx; exact .inr hx), fun {M0 w0 M w fr} hrn hf => by
  obtain ⟨vs, h1, h2⟩ := hf.ops ha (fun _ h => h)
  refine op_call h.ent h1 (h.run M w vs hrn.mb hf.lay h2) fun v w' ⟨hb, hv⟩ => ?_
  obtain ⟨M', hup, rows, nrows, e1, e2, ⟨pv, nv, rfl, p1, n1⟩, r1, r2⟩ := hv tag
  refine ⟨⟨(rows, nrows), e1, e2⟩, M', StW.up hrn.size hup, ⟨[pv, nv], ⟨[pv], [nv], rfl, ⟨pv, rfl, p1⟩, ⟨nv, rfl, n1⟩⟩, rfl⟩, fun r hr' => ?_, r2⟩
  exact ⟨Nat.le_trans hrn.size (r1 r hr').ge, (r1 r hr').at_, (r1 r hr').mark⟩⟩
end
section
variable {f : FuncId} {N : Nat} {M0 : Mut} {w0 : World} {R : Value → World → Prop} {G : TF} {k : List Item}
theorem c_frzTx {todo : List Item} {a b : List Value} {rows nrows : List RowD} {tag : Nat} (t kr : Nat) (h : Rt Tryd.prog f N M0 w0 todo ((t, .pu (pPtr eText ⟨rows.map RowD.ws, nrows.map RowD.ws⟩)) :: dropW [tag] G) R)
    (ha : rows.map RowD.v = a) (hb : nrows.map RowD.v = b) (ht : topP G (.tmp t) = some (pPtr eTxR ⟨a, b⟩) := by rfl) (hg : tlook G kr = some (.gh (rowsG tag (rows ++ nrows))) := by rfl) : Rt Tryd.prog f N M0 w0 todo G R := ⟨fun {M w fr} hr hf => by
  obtain ⟨v, h1, ad, rfl, cs, hR, hc⟩ := hf.op0 ht (fun _ _ => trivial)
  obtain ⟨r1, r2⟩ := hf.out kr _ hg (.inr trivial)
  have hs := StW.clr w0.heap.size [tag] M w
  obtain ⟨c1, c2, rfl, ⟨pv, rfl, p1⟩, ⟨nv, rfl, n1⟩⟩ := hR
  have hM : ∀ r ∈ rows ++ nrows, RowAt w r ∧ (M.clr w0.heap.size [tag]) r.b = none := fun r hr' => ⟨(r1 r hr').at_, clr_none (r1 r hr').mark (r1 r hr').ge (by simp)⟩
  subst ha hb
  have q1 := rows_read p1 hs.x (fun r hr' => hM r (List.mem_append_left _ hr'))
  have q2 := rows_read n1 hs.x (fun r hr' => hM r (List.mem_append_right _ hr'))
  exact h.out (hr.stw hs) (Fit.hide (hf.after hs) ⟨_, h1, ad, rfl, _, ⟨[pv], [nv], rfl, ⟨pv, rfl, q1⟩, ⟨nv, rfl, q2⟩⟩, fun j u hj => hs.x.cell _ _ (hc j u hj)⟩)⟩
end
instance focWd0 : FOc Tryd.prog 29 0 0 := ⟨fdW0⟩
instance focWd1 : FOc Tryd.prog 29 1 1 := ⟨fdW1⟩
instance focWd2 : FOc Tryd.prog 29 2 2 := ⟨fdW2⟩
end Go.Proofs.YtedlipgopicijaaDoor
end

section
namespace Go.Proofs.YtedlipgopicijaaDoor
open Go Go.RowKit
instance uslSTx : USl Tryd.prog 31 25 := ⟨Tryd.underlying31⟩
set_option maxHeartbeats 8000000 in
theorem paraLines_f {l : List Int} {n a x : Int} {s : ByteArray} : Fn Tryd.prog 3 [pSl eI l, pI n, pI a, pS s, pI x] (pB true) := by
  have hv := textM_vt l
  obtain ⟨t, ht⟩ : ∃ t, t = textM l := ⟨_, rfl⟩
  have tf := textV_f (l := l)
  have tx := text_f (l := l)
  rw [← ht] at hv tf tx
  have wf0 := width_f (n := n)
  generalize measM n = m at wf0
  refine fn_of ent3 Tryd.func3 rfl Tryd.ntmps3 rfl fun M0 w0 => ?_
  (repeat (first | refine c_seq ?_ | fail))
  refine c_reg ?_
  (repeat (first | refine c_seq ?_ | refine c_rnil ?_ | refine c_op (by first | exact t_assign | fail) ?_ | fail))
  (repeat (first | refine c_seq ?_ | fail))
  refine c_reg ?_
  (repeat (first | refine c_seq ?_ | refine c_rnil ?_ | refine c_op (by first | exact t_call (h := tf) | exact t_move | exact t_allocV | fail) ?_ | refine c_stV ?_ | fail))
  (repeat (first | refine c_seq ?_ | fail))
  refine c_reg ?_
  (repeat (first | refine (c_opE 200 (t_callTx 20 tx)) ?_ | refine c_op (by first | exact t_move | fail) ?_ | fail))
  rintro ⟨⟨rows, nrows⟩, hr, hnr⟩
  dsimp only at hr hnr ⊢
  (repeat (first | refine c_seq ?_ | refine c_rnil ?_ | refine (c_stV (hE := teTxR)) ?_ | refine c_op (by first | exact (t_allocV (hE := teTxR)) | fail) ?_ | fail))
  have hnp := hv.np
  have hrl : rows.length = t.paras.length := by rw [← hr, List.length_map]
  have hnl : nrows.length = t.notes.length := by rw [← hnr, List.length_map]
  have hr0 : 0 < rows.length := by omega
  have hrv : (rows.map RowD.v).length = rows.length := by simp
  have hw0 : rows[0].ws = t.paras[0] := by
    have : (rows.map RowD.ws)[0]'(by rw [List.length_map]; exact hr0) = t.paras[0] := by simp only [hr]
    simpa using this
  have hp0 := hv.len t.paras[0] (List.mem_append_left _ (List.getElem_mem _))
  rw [← hw0] at hp0
  have hw1 : 0 < rows[0].ws.length := by omega
  have hab := aro_bd a rows[0].ws.length (by omega)
  obtain ⟨j, hj⟩ : ∃ j : Nat, aro a rows[0].ws.length = j := ⟨(aro a rows[0].ws.length).toNat, by omega⟩
  have hj2 : j < rows[0].ws.length := by omega
  have hA : 0 < (rows ++ nrows).length := by rw [List.length_append]; omega
  have hA1 : (rows ++ nrows)[0]? = some rows[0] := by rw [List.getElem?_append_left hr0]; exact List.getElem?_eq_getElem hr0
  (repeat (first | refine c_reg ?_ | refine c_rnil ?_ | refine c_true ?_ | refine c_yes ?_ | refine c_op (by first | exact (t_faR0) | exact (t_ldSRaw) | exact (t_idxRaw (n := 0)) | exact (t_ldRaw) | exact (t_lenRow) | exact t_move | exact t_pickT | exact t_gtrT | exact t_len | fail) ?_ | fail))
  refine c_draw {} 14 1 [] [] mixed (by kernel_rfl) rfl rfl ?_
  (repeat (first | refine d_op (by first | exact (t_faR0) | exact (t_ldSRaw) | exact (t_idxRaw (n := 0)) | exact (t_ldRaw) | exact (t_lenRow) | exact t_call (h := (around_f (by omega))) | exact (t_idxRowE hj) | exact (t_faB) | exact t_move | fail) ?_ | fail))
  refine d_nil ?_
  refine q_st 14 200 (by kernel_rfl) rfl (t_stRowS (i := 0) (n := j) 200 hA1 hj2) ?_
  refine q_nil ?_ (by kernel_rfl)
  obtain ⟨rows', hrows'⟩ : ∃ r, r = rows.set 0 (rows[0].put j { rows[0].ws[j] with s := s }) := ⟨_, rfl⟩
  have hset : (rows ++ nrows).set 0 (rows[0].put j { rows[0].ws[j] with s := s }) = rows' ++ nrows := by rw [hrows']; exact List.set_append_left _ _ hr0
  rw [hset]
  have hv' : rows'.map RowD.v = rows.map RowD.v := by rw [hrows']; exact rset_same hr0 (put_v _ _ _)
  have hl' : rows'.length = rows.length := by rw [hrows', List.length_set]
  refine c_frzTx 12 200 ?_ hv' rfl
  obtain ⟨wr, hwr⟩ : ∃ w : Tx, w = ⟨rows'.map RowD.ws, nrows.map RowD.ws⟩ := ⟨_, rfl⟩
  rw [← hwr]
  have h48 : ∀ x ∈ [t, wr, t], (x.paras.length + x.notes.length) * 24 ≤ 140737488351232 := by
    intro x hx
    have h1 := hv.h48
    simp only [List.mem_cons, List.not_mem_nil, or_false] at hx
    rcases hx with rfl | rfl | rfl
    · exact h1
    · rw [hwr]
      simp only [List.length_map]
      omega
    · exact h1
  have hT3 : [t, wr, t].length = 3 := rfl
  have hM3 : [m, m, x].length = 3 := rfl
  (repeat (first | refine c_seq ?_ | refine c_reg ?_ | refine c_rnil ?_ | refine c_block ?_ | refine c_op (by first | exact t_call (h := wf0) | exact (t_bs (l := [t, wr, t]) (E := eText)) | exact (t_bs (l := [m, m, x]) (E := eI)) | exact t_move | exact t_assign | exact t_load | fail) ?_ | fail))
  generalize [t, wr, t] = T3 at *
  generalize [m, m, x] = M3 at *
  refine c_loop (fun i : Nat => [(13, .pu (pSl eText T3)), (14, .pu (pSl eI M3)), (15, .pu (pI i))])
    (fun i => i ≤ 3) (fun i => 3 - i) 0 (by omega) (by repeat (first | exact trivial | refine ⟨has_rfl rfl, ?_⟩ | fail)) fun i hi ih => ?_
  (repeat (first | refine c_seq ?_ | refine c_reg ?_ | refine c_rnil ?_ | refine c_op (by first | exact t_move | exact t_lss | fail) ?_ | fail))
  refine c_if (fun hlt => ?_) fun hge => ?_
  · have hlt1 : i < T3.length := by omega
    have hlt2 : i < M3.length := by omega
    have f3 := linesT_f (t := T3[i]) (m := M3[i]) (h48 _ (List.getElem_mem _))
    have f4 := linesTR_f (t := T3[i]) (m := M3[i])
    generalize (if errT T3[i] M3[i] = 0 then bodyT T3[i] M3[i] else []) = A at f3 f4
    generalize (if errT T3[i] M3[i] = 0 then notesT T3[i] M3[i] else []) = B at f3 f4
    generalize errT T3[i] M3[i] = E at f3 f4
    (repeat (first | refine c_seq ?_ | refine c_block ?_ | refine c_skip ?_ | fail))
    refine c_draw0 mixed (by kernel_rfl) ?_
    (repeat (first | refine d_op (by first | exact t_call (h := f3) | exact t_move | exact t_assign | exact t_ext30 | exact t_ext31 | exact t_ext32 | exact t_idxN | exact t_load | fail) ?_ | fail))
    refine d_nil (q_nil ?_ (by kernel_rfl))
    (repeat (first | refine c_seq ?_ | fail))
    refine c_draw0 mixed (by kernel_rfl) ?_
    (repeat (first | refine d_op (by first | exact t_call (h := f4) | exact t_move | exact t_assign | exact t_ext30 | exact t_ext31 | exact t_ext32 | exact t_idxN | exact t_load | fail) ?_ | fail))
    refine d_nil (q_nil ?_ (by kernel_rfl))
    (repeat (first | refine c_seq ?_ | refine c_reg ?_ | refine c_rnil ?_ | refine c_block ?_ | refine c_skip ?_ | refine c_false ?_ | refine c_yes ?_ | refine c_op (by first | exact t_call (h := sameL_f) | exact t_move | exact t_assign | exact t_pickF | exact t_not | exact t_neqF | exact t_len | fail) ?_ | fail))
    refine c_have 17 (fun h => i_len24 h) fun hBl => ?_
    refine c_loop (fun k : Nat => [(13, .pu (pSl eText T3)), (14, .pu (pSl eI M3)), (15, .pu (pI i)), (17, .pu (pSl (eSl eLine) B)), (20, .pu (pSl (eSl eLine) B)), (22, .pu (pI k))])
      (fun k => k ≤ B.length) (fun k => B.length - k) 0 (by omega) (by repeat (first | exact trivial | refine ⟨has_rfl rfl, ?_⟩ | fail)) fun k hk ihk => ?_
    (repeat (first | refine c_seq ?_ | refine c_reg ?_ | refine c_rnil ?_ | refine c_op (by first | exact t_move | exact t_lss | exact t_len | fail) ?_ | fail))
    refine c_if (fun hlt3 => ?_) fun hge3 => ?_
    · have hlt3' : k < B.length := by omega
      (repeat (first | refine c_seq ?_ | refine c_block ?_ | refine c_skip ?_ | fail))
      refine c_draw0 mixed (by kernel_rfl) ?_
      (repeat (first | refine d_op (by first | exact t_call (h := sameL_f) | exact t_move | exact t_not | exact t_idxN | exact t_load | fail) ?_ | fail))
      refine d_nil (q_nil ?_ (by kernel_rfl))
      (repeat (first | refine c_reg ?_ | refine c_rnil ?_ | refine c_inBlock ?_ | refine c_skip ?_ | refine c_false ?_ | refine c_op (by first | exact t_move | exact t_assign | exact t_add | fail) ?_ | fail))
      exact (ihk (k + 1) (by omega) (by omega)).sub (by repeat (first | exact trivial | refine ⟨has_rfl rfl, ?_⟩ | fail))
    · (repeat (first | refine c_reg ?_ | refine c_rnil ?_ | refine c_inBlock ?_ | refine c_exit ?_ | refine c_op (by first | exact t_move | exact t_assign | exact t_add | fail) ?_ | fail))
      exact (ih (i + 1) (by omega) (by omega)).sub (by repeat (first | exact trivial | refine ⟨has_rfl rfl, ?_⟩ | fail))
  · (repeat (first | refine c_seq ?_ | refine c_reg ?_ | refine c_rnil ?_ | refine c_exit ?_ | refine c_op (by first | exact t_call (h := lives_f) | exact t_assign | fail) ?_ | fail))
    refine c_ret1 Tryd.func3 rfl ?_
    exact fun h => h
end Go.Proofs.YtedlipgopicijaaDoor
end

section
namespace Go.Proofs.YtedlipgopicijaaDoor
set_option maxRecDepth 100000
open Go Go.RowKit Go.Deep
def Rd {α : Type} (P : Program) (E : Enc α) (t : TypeId) : Prop := ∀ {H : Type} {enc : TypeId × Value → H} {W : World} {base : Nat} {spare : Nat → Bool} {held : Bool} {fuel : Nat} {cs : List Value} {x : DataW H × List MemPlace},
  DataW.trod enc P W base spare held fuel t cs = some x → (∀ n ∈ x.1.weights P t, n ≤ reachBytes) → ∃ d, E.R (fun _ => none) W cs d
section
variable {P : Program}
theorem rd_int {t : TypeId} (ht : P.underlying t = some (.int .i64)) : Rd P eI t := fun h _ => by
  obtain ⟨n, rfl, _, hw⟩ := DataW.trod_int ht h
  refine ⟨n, rfl, fun _ => ?_, fun e => by cases e⟩
  simp [Lit.wf] at hw
  exact hw
theorem weights_all {H : Type} {e : TypeId} : ∀ {l : List (DataW H)} {d : DataW H}, d ∈ l → ∀ n ∈ d.weights P e, n ∈ DataW.weightsAll P e l
  | x :: r, d, hd, n, hn => by
    simp only [DataW.weightsAll, List.mem_append]
    rcases List.mem_cons.1 hd with rfl | hd
    · exact .inl hn
    · exact .inr (weights_all hd n hn)
theorem rd_slice {α : Type} [Inhabited α] {E : Enc α} {t e : TypeId} (ht : P.underlying t = some (.slice e)) (hC : P.cellsOf e = E.sz) (hB : P.bytesOf e = E.by_) (hE : Rd P E e) : Rd P (eSl E) t := fun {H enc W base spare held fuel cs x} h hw => by
  rcases open_slice ht h with ⟨rfl, _⟩ | ⟨a, len, cap, m, n, D, Pl, rfl, hb, hl, hm, hmm, hx, hi⟩
  · exact ⟨[], _, rfl, SlOf.nil _ _ _⟩
  · subst hx
    simp only [DataW.weights, ht] at hw
    have hle : len ≤ m := by rw [hmm]; split <;> omega
    have hbytes : len * E.by_ ≤ 140737488351232 := by
      have := hw _ (by exact List.mem_cons_self)
      simp only [List.length_map, List.length_range, hB] at this
      have h2 : len * E.by_ ≤ (len + (m - len)) * E.by_ := Nat.mul_le_mul_right _ (by omega)
      exact Nat.le_trans h2 this
    have hel : ∀ i, i < len → ∃ d, Elem E (fun _ => none) W (a.add (i * E.sz)) d := fun i hi' => by
      obtain ⟨cs', hc, htr⟩ := hi i (by omega)
      obtain ⟨d, hd⟩ := hE htr (fun k hk => hw k (List.mem_cons_of_mem _ (List.mem_append_left _ (weights_all (List.mem_map.2 ⟨i, List.mem_range.2 hi', rfl⟩) k hk))))
      rw [hC] at hc
      obtain ⟨_, hcl, hat⟩ := World.cells?_some hc
      refine ⟨d, cs', hd, fun j c hj => ?_⟩
      have hjl : j < cs'.length := (List.getElem?_eq_some_iff.1 hj).1
      have := hat j (by omega)
      exact ⟨this.trans hj, fun p hp => by cases hp⟩
    obtain ⟨f, hf⟩ := choose_lt hel
    refine ⟨(List.range len).map f, _, rfl, a, cap, by simp, by simpa using hl, hm, (fun h => by cases h), by simpa using hbytes, fun ad he i hi' => ?_⟩
    cases he
    have hi2 : i < len := by simpa using hi'
    have := hf i hi2
    simpa using this
end
instance : Inhabited Line := ⟨⟨0, 0, [], []⟩⟩
theorem rdI : Rd Tryd.prog eI 3 := rd_int Tryd.underlying3
theorem rdSI : Rd Tryd.prog (eSl eI) 22 := rd_slice Tryd.underlying22 (by kernel_rfl) (by kernel_rfl) rdI
end Go.Proofs.YtedlipgopicijaaDoor
end

section
namespace Go.Proofs.YtedlipgopicijaaDoor
open Go Go.ChangeShapes Go.WideShapes Go.ChangeAt Go.RowKit
theorem paraLinesOwn : ownKnob Tryd.prog.godebug = none := by kernel_rfl
theorem paraLinesLaid : laidOutB Tryd.prog = true := by kernel_rfl
theorem paraLinesWf {n : Int} (h : (Lit.int .i64 n).wf = true) : I64 n := by
  simp [Lit.wf] at h
  exact h
abbrev paraLinesTab : List (String × DataW Unit) := [("rollbook/glyph.widths", Lib.tabData .u8 tbl)]
theorem paraLinesTabs {W : World} (h : laidMetH Tryd.prog paraLinesTab W) : Lays (fun _ => none) W := by
  rw [MakeChecks.laidMetH_plain _ _ _ (by kernel_rfl)] at h
  have hg : Tryd.prog.globalNamed "rollbook/glyph.widths" = some 0 := by kernel_rfl
  have hT := Lib.tabIs_of_head hg (t := 96) (e := 5) (n := 94) (by kernel_rfl) (by kernel_rfl) (by kernel_rfl) (by kernel_rfl) (by kernel_rfl) h
  refine ⟨fun i hi => ⟨?_, fun _ e => by cases e⟩⟩
  have := hT.cell hg i hi
  rw [List.getD_eq_getElem?_getD, List.getElem?_eq_getElem hi] at this
  exact this
theorem paraLinesDoor (os : Os) (args : Array Value) : laidMetH Tryd.prog paraLinesTab ((World.doorLaid Tryd.prog 400 os).forCall (fun _ _ => 0) ⟨#[], args, []⟩).memory :=
  laidMetH_of_parts3 (fuel := 8) (laidMet_of_run' 8 (by kernel_rfl) (by kernel_rfl)) (by kernel_rfl) (by kernel_rfl)
set_option maxRecDepth 100000 in
theorem paraLinesLifted (os : Os) (started : os.Started) (H : Type) (enc : TypeId × Value → H) :
    ReturnsInHanded {} Tryd.checked os 3 .any (fun w args => (Rows.paraLinesSpec.pre enc Tryd.prog Tryd.f3 [] false w args ∧ laidMetH Tryd.prog paraLinesTab w) ∧ sizedMet enc Tryd.prog Tryd.f3 (OpenSpec.ofChange Rows.paraLinesSpec) false w args)
      (Rows.paraLinesSpec.post enc Tryd.prog Tryd.f3 false true false false) := by
  refine returnsInHanded_of_change_and (C := Tryd.checked) (X := fun w _ => laidMetH Tryd.prog paraLinesTab w) (fun _ _ _ hh h => h.of_heap hh) paraLinesOwn started (by kernel_rfl) Tryd.func3
    (ChangeSpec.witness_shaped (enc := enc) (C := Tryd.checked) (os := os) (X := fun w _ => laidMetH Tryd.prog paraLinesTab w) false (World.doorLaid Tryd.prog 400 os) #[.slice none 0 0, .int .i64 0, .int .i64 0, .string ⟨#[]⟩, .int .i64 0] 8 rfl (World.shaped_of_RefB (by kernel_rfl) (by kernel_rfl)) (by kernel_rfl) (by kernel_rfl) (by kernel_rfl) (paraLinesDoor os _)) ?_
  intro W base args ds gs before hval0 hW hcnd hsz hL _
  have hval : ∀ (j : Nat) t v, Tryd.f3.params[j]? = some t → args[j]? = some v → Value.okWide Tryd.prog W .any base t v := hval0
  have hW' := hW
  obtain ⟨p, q, hA0, hV, rfl, hfz, hnd⟩ := hW
  have hA : DataW.TrodAll enc Tryd.prog W 0 (fun _ => true) true Tryd.f3.params.toList args.toList ds p := hA0
  rw [Tryd.params3] at hA hval
  obtain ⟨v0, vs0, d0, ds0, p0, q0, hargs, rfl, rfl, h0, r0⟩ := trodAll_cons hA
  obtain ⟨v1, vs1, d1, ds1, p1, q1, rfl, rfl, rfl, h1, r1⟩ := trodAll_cons r0
  obtain ⟨v2, vs2, d2, ds2, p2, q2, rfl, rfl, rfl, h2, r2⟩ := trodAll_cons r1
  obtain ⟨v3, vs3, d3, ds3, p3, q3, rfl, rfl, rfl, h3, r3⟩ := trodAll_cons r2
  obtain ⟨v4, vs4, d4, ds4, p4, q4, rfl, rfl, rfl, h4, r4⟩ := trodAll_cons r3
  obtain ⟨rfl, rfl, rfl⟩ := trodAll_nil r4
  obtain rfl : args = #[v0, v1, v2, v3, v4] := by cases args; simp_all
  obtain ⟨rfl, rfl⟩ := trodVars_none hV
  obtain ⟨a0, len0, cap0, rfl⟩ := okWide_slice Tryd.underlying22 (hval 0 22 v0 rfl rfl)
  have k0 := h0
  have lt0 : ∀ x ∈ p0, x.block < W.heap.size := by obtain ⟨m, hm⟩ := k0; exact DataW.trod_lt m _ _ _ hm
  obtain ⟨z0, w0⟩ : ∃ l, SlOf eI (fun _ => none) W (.slice a0 len0 cap0) l := by
    obtain ⟨fuel, hf⟩ := h0
    obtain ⟨l, u, hu, hs⟩ := rdSI hf (fun n hn => by
      have := List.all_eq_true.1 hsz n (DataW.weights_mem_each (j := 0) (t := 22) (d := d0) rfl rfl n hn)
      simpa using this)
    simp [Value.cells] at hu
    subst hu
    exact ⟨l, hs⟩
  obtain ⟨a1, rfl, rfl, rfl, w1⟩ := open_int Tryd.underlying3 (hval 1 3 v1 rfl rfl) h1
  obtain ⟨a2, rfl, rfl, rfl, w2⟩ := open_int Tryd.underlying3 (hval 2 3 v2 rfl rfl) h2
  obtain ⟨a3, rfl, rfl, rfl, w3⟩ := ChangeMaps.open_string Tryd.underlying9 (hval 3 9 v3 rfl rfl) h3
  have s3 : a3.size ≤ 140737488351232 := by
    have h := sized_string hsz (j := 3) (t := 9) (bytes := a3.data.toList) rfl rfl
    rw [Array.length_toList] at h
    exact Nat.le_trans h (by decide)
  obtain ⟨a4, rfl, rfl, rfl, w4⟩ := open_int Tryd.underlying3 (hval 4 3 v4 rfl rfl) h4
  clear hA0 hval0
  refine Calls.mono (paraLines_f.run (fun _ => none) W [.slice a0 len0 cap0, .int .i64 a1, .int .i64 a2, .string a3, .int .i64 a4] (fun _ _ => rfl) (paraLinesTabs hL) ⟨w0, ⟨rfl, fun _ => paraLinesWf w1, fun e => by cases e⟩, ⟨rfl, fun _ => paraLinesWf w2, fun e => by cases e⟩, ⟨rfl, s3⟩, ⟨rfl, fun _ => paraLinesWf w4, fun e => by cases e⟩, trivial⟩) fun e W' ⟨v, he, hv, bel⟩ => ?_
  have hv : v = .bool true := hv
  subst he hv
  exact ⟨_, rfl, _, _, _, [], _, [], hW', trodAll_mk1 (shut_bool Tryd.underlying4 _), (trodAll_cons_mk (Below.trod paraLinesLaid (by kernel_rfl) (of_decide_eq_true (by kernel_rfl)) k0 bel lt0) (trodAll_cons_mk (shut_int Tryd.underlying3 w1) (trodAll_cons_mk (shut_int Tryd.underlying3 w2) (trodAll_cons_mk (ChangeMaps.shut_string Tryd.underlying9 w3) (trodAll_cons_mk (shut_int Tryd.underlying3 w4) trodAll_mk0))))), rfl, bel.frame _, fun h => by cases h⟩
theorem paraLines_proved : Rows.ParaLinesSaid :=
  OpenClaim.holds_of_wide 3 Tryd.f3 rfl rfl rfl rfl rfl rfl rfl ⟨rfl, rfl, rfl, rfl, rfl⟩ rfl rfl rfl rfl rfl (by kernel_rfl) Tryd.func3 (by kernel_rfl)
    (of_decide_eq_true (by kernel_rfl)) (by unfold Func.isWrapper; first | (rw [if_pos (by decide +kernel)]; kernel_rfl) | (rw [if_neg (by decide +kernel)]; exact ⟨rfl, rfl⟩))
    (fun os started H enc _ => paraLinesLifted os started H enc)
theorem paraLines_card : Rows.ParaLinesCardSaid :=
  Claim7.holds_tied_plain_at .later [] [.data] true (true, "3e1017bbe245d220a28fd9e6071ba9ea44c5eed799b6b6bde6659dd7b8f8309f") false
    paraLines_proved (fun _ h => by cases h) (by kernel_rfl) (fun _ h => by cases h) paraLines_row_tie rfl ⟨rfl, rfl⟩ (by kernel_rfl) rfl
    (fun f fn hf hfn => by
      obtain rfl : f = 3 := Option.some.inj ((show Tryd.prog.funcNamed "rollbook/rollbooklaw26.ParaLines" = some 3 by kernel_rfl).symm.trans hf) |>.symm
      obtain rfl : fn = Tryd.f3 := (Option.some.inj (Tryd.func3.symm.trans hfn)).symm
      exact ⟨by kernel_rfl, fun j t ht => by
        rw [Tryd.params3] at ht
        have hm : t ∈ [22, 3, 3, 9, 3] := by simpa using Array.mem_of_getElem? ht
        have hall : ([22, 3, 3, 9, 3].all fun u => !Tryd.prog.wantsStandIn u) = true := by kernel_rfl
        exact (show Tryd.prog.wantsStandIn t = false by simpa using List.all_eq_true.1 hall t hm)⟩)
    (by kernel_rfl)
end Go.Proofs.YtedlipgopicijaaDoor
end
