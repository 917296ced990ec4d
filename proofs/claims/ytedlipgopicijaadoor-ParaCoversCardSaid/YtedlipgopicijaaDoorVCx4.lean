/-
  ParaCovers: for all inputs the law returns true, and the inputs read as they did; the table of widths is tied to the text.
-/
import Derived.Calls
import Derived.Orders
import Derived.Below
import Derived.KernelRfl
import Derived.WalkKit
import Derived.Laws.AppendOwn
import Derived.Laws.Rows
import Derived.Deep.Slices
import Derived.Laws.OwnMore
import Derived.Laws.MakeOwn
import Derived.Laws.CopyRow
import Derived.Still
import Derived.Lib.SliceRun
import Derived.Test.YtedlipgopicijaaDoorChecked
import Derived.Lib.AppendZeros
import Derived.Scope
import Derived.SizedLaws
import Derived.Test.YtedlipgopicijaaDoorRows
import Derived.Test.YtedlipgopicijaaDoorCards
import Derived.Test.YtedlipgopicijaaDoorTie
import Derived.Lib.LaidTab
import Derived.LaidMore
import Derived.SevenTiedAt
import Derived.ProofKit
import Derived.OpenShut
import Derived.ChangeOld
import Derived.Test.YtedlipgopicijaaDoorVCx3
section
namespace Go.Proofs.YtedlipgopicijaaDoor
open Go Go.RowKit
def pE0 : Pub := ⟨fun _ _ v => ∃ a, v = .slice a 0 0, fun _ h => h⟩
section
variable {P : Program} {N : Nat} {G : TF} {d : Option Tmp} {ty : TypeId} {pos : String} {aft : Array Edge} {g : Option (Nat × Bool)}
theorem t_bs0 {t e : TypeId} {α : Type} {E : Enc α} (ht : USl P t e := by infer_instance) (hE : TEc P e E := by infer_instance) : TOp P N ⟨d, .buildSlice t 0 #[], ty, pos, aft, g⟩ G [] (.pu pE0) := .up [] (by simp) fun {M0 w0 M w fr} hr _ =>
  op_buildSlice (parts := []) (vs := []) (l := []) ht.out hE.out hr rfl rfl trivial rfl (by simp) fun _ _ _ k2 k3 => ⟨k3, k2⟩
theorem SlOf.e0 {α : Type} (E : Enc α) (M : Mut) (w : World) (a : Option Addr) : SlOf E M w (.slice a 0 0) ([] : List α) :=
  ⟨a, 0, rfl, Nat.le_refl _, Nat.zero_le _, fun _ => rfl, by simp, fun _ _ i hi => by simp at hi⟩
theorem Grow.e0 {B : Nat} {M : Mut} {w : World} {a : Option Addr} {sz tag : Nat} {e : TypeId} : Grow B M w (.slice a 0 0) 0 sz tag e := ⟨.inl ⟨a, rfl⟩⟩
theorem has_e0 {t : Nat} {α : Type} {E : Enc α} {tag : Nat} {e : TypeId} (h : tlook G t = some (.pu pE0)) : Has G t (.gr E [] tag e) := fun hf => by
  obtain ⟨v, h1, a, rfl⟩ := hf.out t _ h (.inr trivial)
  exact ⟨_, h1, SlOf.e0 E _ _ a, Grow.e0⟩
theorem t_appE {α : Type} {E : Enc α} {x y : Operand} {l2 : List α} {t e : TypeId} (tag : Nat) (hx : topP G x = some pE0 := by rfl) (hy : topP G y = some (pSl E l2) := by rfl)
    (ht : USl P t e := by infer_instance) (hE : TEc P e E := by infer_instance) :
    TOp P N ⟨d, .call ⟨.builtin .append, #[x, y], #[t, t]⟩, ty, pos, aft, g⟩ G [tag] (.gr E l2 tag e) := ⟨[x, y], by simp [Op.operands, Call.operands], fun {M0 w0 M w fr} hr hf => by
  obtain ⟨_, k0, a, rfl⟩ := hf.op hx (by simp)
  obtain ⟨u, k3, k4⟩ := hf.op hy (by simp)
  exact op_append ht.out hE.out k0 k3 hr (SlOf.e0 E M w a) Grow.e0 k4 (by have := k4.bytes; simpa using this) fun v' w' M' h1 h2 h3 => ⟨M', StW.st h3, h1, h2⟩⟩
end
section
variable {P : Program} {f : FuncId} {N : Nat} {M0 : Mut} {w0 : World} {G : TF} {k : List Item}
theorem c_ret2P {α : Type} {E : Enc α} {fn : Func} {t u s : Nat} {x : α} {q Q : Pub} (hf : P.funcs[f]? = some fn) (hr : fn.results = #[.cell t u, .tmp s]) (h : ∀ {M w v y}, E.V M w v x → q.p M w y → Q.p M w (.tuple #[v, y]))
    (hp : topP G (.tmp t) = some (pPtr E x) := by rfl) (hq : topP G (.tmp s) = some q := by rfl) (ha : E.agg = true := by rfl) (hE : TEc P u E := by infer_instance) : Rt P f N M0 w0 (.code .ret :: k) G (RetR M0 w0 Q) := ⟨fun {M w fr} hrn hfit => by
  obtain ⟨v, h1, ad, rfl, cs, hR, hc⟩ := hfit.op0 hp (fun _ _ => trivial)
  obtain ⟨y, h3, h4⟩ := hfit.op0 hq (fun _ _ => trivial)
  obtain ⟨z, hz, hT⟩ := hE.out
  rw [ha] at hT
  exact ⟨fun a hA => runA_ret hf hA.defers (by
    have g1 := hA.slot t _ h1
    have g2 := hA.slot s _ h3
    have hl := run_loadCells_list (P := P) w ad cs (fun j v hj => (hc j v hj).1)
    rw [E.len hR] at hl
    simp only [results, hr]
    simp at g1 g2
    simp [g1, g2, asAddr, loadVar, hT.run_isAgg (w := w), hT.run_sizeOf (w := w), hl]) (show RetR M0 w0 Q (.tuple #[.agg cs.toArray, y]) w from ⟨Q.mono hrn.fin (h ⟨_, hR, by rw [ha]; rfl⟩ h4), hrn.bel⟩)⟩⟩
end
theorem has_t {l : List Int} {k : Int} (h : k ∈ l) : Fn Tryd.prog 16 [pSl eI l, pI k] (pB true) := by
  refine fn_of ent16 Tryd.func16 rfl Tryd.ntmps16 rfl fun M0 w0 => ?_
  (repeat (first | refine c_seq ?_ | refine c_reg ?_ | refine c_rnil ?_ | refine c_block ?_ | refine c_op (by first | exact t_assign | fail) ?_ | fail))
  refine c_have 0 (fun h => i_len26 h) fun hpl => ?_
  refine c_loop (fun i : Nat => [(0, .pu (pSl eI l)), (1, .pu (pI k)), (5, .pu (pI i))])
    (fun i => i ≤ l.length ∧ k ∈ l.drop i) (fun i => l.length - i) 0 ⟨by omega, h⟩ (by repeat (first | exact trivial | refine ⟨has_rfl rfl, ?_⟩ | fail)) fun i hi ih => ?_
  have hlt' : i < l.length := by
    rcases Nat.lt_or_ge i l.length with h | h
    · exact h
    · rw [List.drop_eq_nil_of_le h] at hi
      simp at hi
  by_cases he : l[i] = k
  · (repeat (first | refine c_seq ?_ | refine c_reg ?_ | refine c_rnil ?_ | refine c_block ?_ | refine c_skip ?_ | refine c_true ?_ | refine c_op (by first | exact t_move | exact t_assign | exact t_lssT | exact t_eqlT | exact t_len | exact t_idxN | exact t_load | fail) ?_ | fail))
    refine c_ret1 Tryd.func16 rfl ?_
    exact fun h => h
  · (repeat (first | refine c_seq ?_ | refine c_reg ?_ | refine c_rnil ?_ | refine c_block ?_ | refine c_inBlock ?_ | refine c_skip ?_ | refine c_true ?_ | refine c_false ?_ | refine c_op (by first | exact t_move | exact t_assign | exact t_add | exact t_lssT | exact t_eqlF | exact t_len | exact t_idxN | exact t_load | fail) ?_ | fail))
    refine (ih (i + 1) ⟨by omega, ?_⟩ (by omega)).sub (by repeat (first | exact trivial | refine ⟨has_rfl rfl, ?_⟩ | fail))
    have := hi.2
    rw [List.drop_eq_getElem_cons hlt'] at this
    exact (List.mem_cons.1 this).elim (fun e => absurd e.symm he) id
theorem has_no {l : List Int} {k : Int} (h : k ∉ l) : Fn Tryd.prog 16 [pSl eI l, pI k] (pB false) := by
  refine fn_of ent16 Tryd.func16 rfl Tryd.ntmps16 rfl fun M0 w0 => ?_
  (repeat (first | refine c_seq ?_ | refine c_reg ?_ | refine c_rnil ?_ | refine c_block ?_ | refine c_op (by first | exact t_assign | fail) ?_ | fail))
  refine c_have 0 (fun h => i_len26 h) fun hpl => ?_
  refine c_loop (fun i : Nat => [(0, .pu (pSl eI l)), (1, .pu (pI k)), (5, .pu (pI i))])
    (fun i => i ≤ l.length) (fun i => l.length - i) 0 (by omega) (by repeat (first | exact trivial | refine ⟨has_rfl rfl, ?_⟩ | fail)) fun i hi ih => ?_
  (repeat (first | refine c_seq ?_ | refine c_reg ?_ | refine c_rnil ?_ | refine c_op (by first | exact t_move | exact t_lss | exact t_len | fail) ?_ | fail))
  refine c_if (fun hlt => ?_) fun hge => ?_
  · have hlt' : i < l.length := by omega
    have he : l[i] ≠ k := fun e => h (e ▸ List.getElem_mem hlt')
    (repeat (first | refine c_seq ?_ | refine c_reg ?_ | refine c_rnil ?_ | refine c_block ?_ | refine c_inBlock ?_ | refine c_skip ?_ | refine c_false ?_ | refine c_op (by first | exact t_move | exact t_assign | exact t_add | exact t_eqlF | exact t_idxN | exact t_load | fail) ?_ | fail))
    exact (ih (i + 1) (by omega) (by omega)).sub (by repeat (first | exact trivial | refine ⟨has_rfl rfl, ?_⟩ | fail))
  · (repeat (first | refine c_seq ?_ | refine c_reg ?_ | refine c_rnil ?_ | refine c_exit ?_ | refine c_op (by first | exact t_assign | fail) ?_ | fail))
    refine c_ret1 Tryd.func16 rfl ?_
    exact fun h => h
theorem flat_get : ∀ (ps : List (List Wd)) (j r : Nat) (hj : j < ps.length) (hr : r < ps[j].length) (h : wordsN (ps.take j) + r < ps.flatten.length), ps.flatten[wordsN (ps.take j) + r] = ps[j][r]
  | [], _, _, hj, _, _ => by simp at hj
  | p :: ps, 0, r, _, hr, h => by
    simp only [List.take_zero, List.flatten_cons, List.getElem_cons_zero] at *
    have e : wordsN [] + r = r := by simp [wordsN]
    simp only [e]
    exact List.getElem_append_left hr
  | p :: ps, j + 1, r, hj, hr, h => by
    have hj' : j < ps.length := by simpa using hj
    have h' : wordsN (ps.take j) + r < ps.flatten.length := by
      rw [wordsN_flat]
      have e1 := wordsN_takeN (l := ps) (j + 1)
      rw [wordsN_take hj'] at e1
      have : r < ps[j].length := hr
      omega
    have ih := flat_get ps j r hj' hr h'
    simp only [List.take_succ_cons, List.flatten_cons, List.getElem_cons_succ]
    rw [← ih]
    rw [List.getElem_append_right (by rw [wordsN_cons]; omega)]
    congr 1
    rw [wordsN_cons]
    omega
set_option maxHeartbeats 1000000 in
theorem glyphWord_f {t : Tx} {k : Nat} (h48 : (t.paras.length + t.notes.length) * 24 ≤ 140737488351232) (hw : k < (t.paras ++ t.notes).flatten.length) (hW : wordsN (t.paras ++ t.notes) ≤ 1000000) :
    Fn Tryd.prog 15 [pV eText t, pI k] (pT2 (pV eWord (t.paras ++ t.notes).flatten[k]) (pB true)) := by
  have hwn := wordsN_flat (t.paras ++ t.notes)
  refine fn_of ent15 Tryd.func15 rfl Tryd.ntmps15 rfl fun M0 w0 => ?_
  (repeat (first | refine c_seq ?_ | refine c_reg ?_ | refine c_rnil ?_ | refine c_block ?_ | refine c_skip ?_ | refine c_false ?_ | refine c_op (by first | exact t_call (h := (concat2_f h48)) | exact t_move | exact t_assign | exact t_lssF | exact t_len | exact t_load | exact t_fa | exact t_bs | exact t_boxP | exact t_allocV | fail) ?_ | fail))
  have hpl : (t.paras ++ t.notes).length ≤ 5864062014634 := by rw [List.length_append]; omega
  refine c_loop (fun j : Nat => [(1, .pu (pI ((k - wordsN ((t.paras ++ t.notes).take j) : Nat) : Int))), (4, .go (varG eWord 1004 29)), (16, .pu (pSl (eSl eWord) (t.paras ++ t.notes))), (17, .pu (pI ((t.paras ++ t.notes).length : Nat))), (18, .pu (pI j))])
    (fun j => j ≤ (t.paras ++ t.notes).length ∧ wordsN ((t.paras ++ t.notes).take j) ≤ k) (fun j => (t.paras ++ t.notes).length - j) 0 ⟨by omega, by simp [wordsN]⟩ (by repeat (first | exact trivial | refine ⟨has_rfl rfl, ?_⟩ | fail)) fun j hj ih => ?_
  generalize t.paras ++ t.notes = ps at *
  have hlt' : j < ps.length := by
    rcases Nat.lt_or_ge j ps.length with h | h
    · exact h
    · have := hj.2
      rw [List.take_of_length_le h] at this
      omega
  have e1 := wordsN_take hlt'
  by_cases hin : k - wordsN (ps.take j) < ps[j].length
  · have hg := flat_get ps j (k - wordsN (ps.take j)) hlt' hin (by omega)
    (repeat (first | refine c_seq ?_ | refine c_reg ?_ | refine c_rnil ?_ | refine c_block ?_ | refine c_skip ?_ | refine c_true ?_ | refine c_op (by first | exact t_move | exact t_assign | exact t_lssT | exact t_len | exact t_idxN | exact t_load | fail) ?_ | refine c_stV ?_ | fail))
    refine c_ret2P Tryd.func15 rfl ?_
    intro M w v y h1 h2
    refine ⟨v, y, rfl, ?_, h2⟩
    have e : ps.flatten[k] = ps[j][k - wordsN (ps.take j)] := by
      rw [← hg]
      congr 1
      omega
    rw [e]
    exact h1
  · (repeat (first | refine c_seq ?_ | refine c_reg ?_ | refine c_rnil ?_ | refine c_block ?_ | refine c_inBlock ?_ | refine c_skip ?_ | refine c_true ?_ | refine c_false ?_ | refine c_op (by first | exact t_move | exact t_assign | exact t_add | exact t_sub | exact t_lssT | exact t_lssF | exact t_len | exact t_idxN | exact t_load | fail) ?_ | fail))
    exact (ih (j + 1) ⟨by omega, by omega⟩ (by omega)).sub (by repeat (first | exact trivial | refine ⟨has_rfl rfl, ?_⟩ | refine ⟨has_int rfl (by first | omega | fail), ?_⟩))
set_option maxHeartbeats 1000000 in
theorem count_f {t : Tx} (h48 : (t.paras.length + t.notes.length) * 24 ≤ 140737488351232) (hW : wordsN (t.paras ++ t.notes) ≤ 1000000) :
    Fn Tryd.prog 18 [pV eText t] (pI (wordsN (t.paras ++ t.notes))) := by
  refine fn_of ent18 Tryd.func18 rfl Tryd.ntmps18 rfl fun M0 w0 => ?_
  (repeat (first | refine c_seq ?_ | refine c_reg ?_ | refine c_rnil ?_ | refine c_block ?_ | refine c_op (by first | exact t_call (h := (concat2_f h48)) | exact t_move | exact t_assign | exact t_len | exact t_load | exact t_fa | exact t_bs | exact t_boxP | fail) ?_ | fail))
  have hpl : (t.paras ++ t.notes).length ≤ 5864062014634 := by rw [List.length_append]; omega
  refine c_loop (fun j : Nat => [(3, .pu (pI (wordsN ((t.paras ++ t.notes).take j)))), (11, .pu (pSl (eSl eWord) (t.paras ++ t.notes))), (12, .pu (pI ((t.paras ++ t.notes).length : Nat))), (13, .pu (pI j))])
    (fun j => j ≤ (t.paras ++ t.notes).length) (fun j => (t.paras ++ t.notes).length - j) 0 (by omega) (by repeat (first | exact trivial | refine ⟨has_rfl rfl, ?_⟩ | fail)) fun j hj ih => ?_
  generalize t.paras ++ t.notes = ps at *
  (repeat (first | refine c_seq ?_ | refine c_reg ?_ | refine c_rnil ?_ | refine c_op (by first | exact t_lss | fail) ?_ | fail))
  refine c_if (fun hlt => ?_) fun hge => ?_
  · have hlt' : j < ps.length := by omega
    have e1 := wordsN_take hlt'
    have e2 := wordsN_takeN (l := ps) (j + 1)
    (repeat (first | refine c_seq ?_ | refine c_reg ?_ | refine c_rnil ?_ | refine c_block ?_ | refine c_inBlock ?_ | refine c_skip ?_ | refine c_op (by first | exact t_move | exact t_assign | exact t_add | exact t_len | exact t_idxN | exact t_load | fail) ?_ | fail))
    exact (ih (j + 1) (by omega) (by omega)).sub (by repeat (first | exact trivial | refine ⟨has_rfl rfl, ?_⟩ | refine ⟨has_int rfl (by first | omega | fail), ?_⟩))
  · have hje : j = ps.length := by omega
    subst hje
    rw [List.take_length]
    (repeat (first | refine c_seq ?_ | refine c_reg ?_ | refine c_rnil ?_ | refine c_exit ?_ | refine c_op (by first | exact t_move | exact t_assign | fail) ?_ | fail))
    refine c_ret1 Tryd.func18 rfl ?_
    exact fun h => h
end Go.Proofs.YtedlipgopicijaaDoor
end

section
namespace Go.Proofs.YtedlipgopicijaaDoor
open Go Go.RowKit
def planAt' (k m tag : Nat) : Plan := { tag := List.replicate k none ++ [some tag], pre := List.replicate (k + 1) [] ++ List.replicate (m - k - 1) [tag], oth := List.replicate k [tag] ++ [[]] ++ List.replicate (m - k - 1) [tag] }
structure CovF (ps : List (List Wd)) (L : List Line) (m : Int) : Prop where
  chn : Chn true 0 L (wordsN ps)
  ln : ∀ x ∈ L, LnF (widsW ps.flatten) (endsS ps ps.length) m x
theorem VT.covF {t : Tx} (hv : VT t) {m : Int} (hm : 500 ≤ m) : CovF (t.paras ++ t.notes) (bodyT t m ++ (notesT t m).flatten) m := by
  have e : bodyT t m ++ (notesT t m).flatten = bodyGo m 0 (t.paras ++ t.notes) := by
    unfold bodyT notesT
    rw [notesGo_flat, bodyGo_append, Int.zero_add]
  rw [e]
  refine ⟨?_, lnF_all hm hv.okr⟩
  have := chn_body hm (t.paras ++ t.notes) 0 hv.okr
  rwa [Int.zero_add] at this
theorem chn_get {g : Bool} {L : List Line} {a c : Int} (h : Chn g a L c) (i : Nat) (hi : i < L.length) :
    L[i].frm = lastU a (L.take i) ∧ lastU a (L.take i) < L[i].til ∧ (g = true → (L[i].gaps.length : Int) = L[i].til - L[i].frm - 1) ∧ a ≤ L[i].frm ∧ L[i].til ≤ c := by
  have e : L = L.take i ++ L[i] :: L.drop (i + 1) := by rw [← List.drop_eq_getElem_cons hi, List.take_append_drop]
  rw [e] at h
  exact chn_at h
theorem lastU_take {a : Int} {L : List Line} (i : Nat) (hi : i < L.length) : lastU a (L.take (i + 1)) = L[i].til := by
  rw [List.take_succ_eq_append_getElem hi, lastU_append]
  rfl
theorem endsS_len (ps : List (List Wd)) (n : Nat) : (endsS ps n).length = n := by simp [endsS]
theorem flatL_take {ls : List (List Line)} {i : Nat} (h : i < ls.length) : (ls.take (i + 1)).flatten = (ls.take i).flatten ++ ls[i] := by
  rw [List.take_succ_eq_append_getElem h, List.flatten_append, List.flatten_singleton]
theorem flatL_le (ls : List (List Line)) (i : Nat) : (ls.take i).flatten.length ≤ ls.flatten.length := by
  conv => rhs; rw [← List.take_append_drop i ls]
  rw [List.flatten_append, List.length_append]
  omega
set_option maxHeartbeats 8000000 in
theorem paraCovers_f {l : List Int} {n : Int} : Fn Tryd.prog 4 [pSl eI l, pI n] (pB true) := by
  have hv := textM_vt l
  obtain ⟨t, ht⟩ : ∃ t, t = textM l := ⟨_, rfl⟩
  have tf := textV_f (l := l)
  rw [← ht] at hv tf
  have hmb := measM_bd n
  have wf0 := width_f (n := n)
  generalize measM n = m at hmb wf0
  have e0 := hv.err hmb
  have f3 := linesT_f (t := t) (m := m) hv.h48
  rw [e0, if_pos rfl, if_pos rfl] at f3
  have cv := hv.covF hmb.1
  obtain ⟨z1, z2⟩ := hv.sz m e0
  have hnn := hv.nn
  have hnp := hv.np
  obtain ⟨hw1, hw2⟩ := hv.words
  have hnl : (notesT t m).length = t.notes.length := by unfold notesT; rw [notesGo_len]
  have z3 : (notesT t m).flatten.length ≤ 1000000 := by
    have e2 := notes_seq (body := bodyT t m) (notes := notesT t m) (by rw [hv.refs hmb.1, hnl])
    rw [← e2, notesOf_len]
    exact z2
  obtain ⟨ps, hps⟩ : ∃ ps, ps = t.paras ++ t.notes := ⟨_, rfl⟩
  have hWp : wordsN ps = wordsN t.paras + wordsN t.notes := by rw [hps, wordsN_append]
  have hpl : ps.length ≤ 8 := by rw [hps, List.length_append]; omega
  have cf := count_f (t := t) hv.h48 (by rw [wordsN_append]; omega)
  have gf := fun (k : Nat) hk => glyphWord_f (t := t) (k := k) hv.h48 hk (by rw [wordsN_append]; omega)
  rw [← hps] at cf cv
  have gf' : ∀ (k : Nat) (hk : k < ps.flatten.length), Fn Tryd.prog 15 [pV eText t, pI k] (pT2 (pV eWord ps.flatten[k]) (pB true)) := by
    subst hps
    exact gf
  clear gf
  generalize hB : bodyT t m = body at *
  generalize hN : notesT t m = nts0 at *
  refine fn_of ent4 Tryd.func4 rfl Tryd.ntmps4 rfl fun M0 w0 => ?_
  (repeat (first | refine c_seq ?_ | fail))
  refine c_reg ?_
  (repeat (first | refine c_seq ?_ | refine c_rnil ?_ | refine c_op (by first | exact t_assign | fail) ?_ | fail))
  (repeat (first | refine c_seq ?_ | fail))
  refine c_reg ?_
  (repeat (first | refine c_seq ?_ | refine c_rnil ?_ | refine c_op (by first | exact t_call (h := tf) | exact t_move | exact t_allocV | fail) ?_ | refine c_stV ?_ | fail))
  (repeat (first | refine c_seq ?_ | fail))
  refine c_reg ?_
  (repeat (first | refine c_seq ?_ | refine c_rnil ?_ | refine c_op (by first | exact t_call (h := wf0) | exact t_move | exact t_assign | fail) ?_ | fail))
  (repeat (first | refine c_seq ?_ | refine c_reg ?_ | refine c_rnil ?_ | refine c_block ?_ | refine c_skip ?_ | refine c_false ?_ | refine c_yes ?_ | refine (c_opW (t_appE 1)) ?_ | refine c_op (by first | exact t_call (h := f3) | exact (t_bs0) | exact t_move | exact t_assignG | exact t_assign | exact t_pickF | exact t_neqF | exact t_ext30 | exact t_ext31 | exact t_ext32 | exact t_len | exact t_load | exact t_fa | fail) ?_ | fail))
  refine c_loop (fun i : Nat => [(5, .pu (pPtr eText t)), (6, .pu (pI m)), (8, .pu (pSl (eSl eLine) nts0)), (10, .gr eLine (body ++ (nts0.take i).flatten) 1 42), (11, .pu (pI i))])
    (fun i => i ≤ nts0.length) (fun i => nts0.length - i) 0 (by omega) ⟨has_rfl rfl, has_rfl rfl, has_rfl rfl, has_grE rfl (by simp), (by repeat (first | exact trivial | refine ⟨has_rfl rfl, ?_⟩ | fail))⟩ fun i hi ih => ?_
  (repeat (first | refine c_seq ?_ | refine c_reg ?_ | refine c_rnil ?_ | refine c_op (by first | exact t_move | exact t_lss | exact t_len | fail) ?_ | fail))
  refine c_if (fun hlt => ?_) fun hge => ?_
  · have hlt' : i < nts0.length := by omega
    have e1 := flatL_take hlt'
    have e2 := congrArg List.length e1
    rw [List.length_append] at e2
    have e3 := flatL_le nts0 (i + 1)
    (repeat (first | refine c_seq ?_ | refine c_reg ?_ | refine c_rnil ?_ | refine c_block ?_ | refine c_inBlock ?_ | refine c_skip ?_ | refine c_op (by first | exact t_moveG | exact t_move | exact t_assignG | exact t_assign | exact t_add | exact t_idxN | exact t_load | fail) ?_ | refine c_opW t_app ?_ | fail))
    refine (ih (i + 1) (by omega) (by omega)).sub ?_
    exact ⟨has_rfl rfl, has_rfl rfl, has_rfl rfl, has_grE rfl (by rw [e1, List.append_assoc]), (by repeat (first | exact trivial | refine ⟨has_rfl rfl, ?_⟩ | fail))⟩
  have hie : i = nts0.length := by omega
  subst hie
  rw [List.take_length]
  have hLl : (body ++ nts0.flatten).length ≤ 2000000 := by rw [List.length_append]; omega
  generalize body ++ nts0.flatten = L at *
  obtain ⟨cC, cL⟩ := cv
  obtain ⟨W, hW⟩ : ∃ W, W = widsW ps.flatten := ⟨_, rfl⟩
  have hWl : W.length = wordsN ps := by rw [hW, widsW_len, wordsN_flat]
  have hWk : ∀ (k : Nat) (hk : k < ps.flatten.length), W[k]'(by rw [hWl, ← wordsN_flat]; exact hk) = widM ps.flatten[k].s := by
    intro k hk
    subst hW
    exact widsW_get _ _ hk
  have hWr : ∀ x ∈ W, 0 ≤ x := by
    intro x hx
    rw [hW] at hx
    obtain ⟨w, _, rfl⟩ := List.mem_map.1 hx
    exact (widM_rng w.s).1
  rw [← hW] at cL
  (repeat (first | refine c_seq ?_ | refine c_reg ?_ | refine c_rnil ?_ | refine c_exit ?_ | refine c_op (by first | exact (t_bs0) | exact t_assign | fail) ?_ | fail))
  refine c_draw (planAt' 3 6 2) 6 2 [] [2] mixed (by kernel_rfl) rfl rfl ?_
  (repeat (first | refine d_op (by first | exact (t_bs0) | exact (t_appE 2) | exact t_load | exact t_fa | fail) ?_ | fail))
  refine d_nil ?_
  refine q_op 6 (by kernel_rfl) rfl t_app ?_
  refine q_op 7 (by kernel_rfl) rfl t_assignG ?_
  refine q_nil ?_ (by kernel_rfl)
  (repeat (first | refine c_seq ?_ | refine c_reg ?_ | refine c_rnil ?_ | refine c_block ?_ | refine c_op (by first | exact t_assign | fail) ?_ | fail))
  refine c_loop (fun i : Nat => [(5, .pu (pPtr eText t)), (6, .pu (pI m)), (10, .gr eLine L 1 42), (12, .gr eI (endsS ps i) 3 3), (13, .pu (pI (wordsN (ps.take i)))), (14, .gr (eSl eWord) ps 2 27), (15, .pu (pI i))])
    (fun i => i ≤ ps.length) (fun i => ps.length - i) 0 (by omega) ⟨has_rfl rfl, has_rfl rfl, has_rfl rfl, has_e0 rfl, has_rfl rfl, has_grE rfl hps.symm, (by repeat (first | exact trivial | refine ⟨has_rfl rfl, ?_⟩ | fail))⟩ fun i hi ih => ?_
  (repeat (first | refine c_seq ?_ | refine c_reg ?_ | refine c_rnil ?_ | refine c_op (by first | exact t_moveG | exact t_move | exact t_lss | exact t_len | fail) ?_ | fail))
  refine c_if (fun hlt => ?_) fun hge => ?_
  · have hlt' : i < ps.length := by omega
    have e1 := wordsN_take hlt'
    have e2 := wordsN_takeN (l := ps) (i + 1)
    have e3 := endsS_len ps i
    (repeat (first | refine c_seq ?_ | refine c_reg ?_ | refine c_rnil ?_ | refine c_block ?_ | refine c_inBlock ?_ | refine c_skip ?_ | refine c_op (by first | exact t_moveG | exact t_move | exact t_assignG | exact t_assign | exact t_add | exact t_len | exact t_idxN | exact t_load | exact t_bs | fail) ?_ | refine c_opW t_app ?_ | fail))
    refine (ih (i + 1) (by omega) (by omega)).sub ?_
    exact ⟨has_rfl rfl, has_rfl rfl, has_rfl rfl, has_grE rfl (by rw [endsS_succ, e1, Int.natCast_add]), has_int rfl (by omega), has_rfl rfl, (by repeat (first | exact trivial | refine ⟨has_rfl rfl, ?_⟩ | fail))⟩
  have hie : i = ps.length := by omega
  subst hie
  rw [List.take_length]
  (repeat (first | refine c_seq ?_ | refine c_reg ?_ | refine c_rnil ?_ | refine c_block ?_ | refine c_exit ?_ | refine c_op (by first | exact t_assign | fail) ?_ | fail))
  refine c_loop (fun i : Nat => [(5, .pu (pPtr eText t)), (6, .pu (pI m)), (10, .gr eLine L 1 42), (12, .gr eI (endsS ps ps.length) 3 3), (13, .pu (pI (wordsN ps))), (16, .pu (pI (lastU 0 (L.take i)))), (17, .pu (pI i))])
    (fun i => i ≤ L.length) (fun i => L.length - i) 0 (by omega) (by repeat (first | exact trivial | refine ⟨has_rfl rfl, ?_⟩ | fail)) fun i hi ih => ?_
  (repeat (first | refine c_seq ?_ | refine c_reg ?_ | refine c_rnil ?_ | refine c_op (by first | exact t_moveG | exact t_move | exact t_lss | exact t_len | fail) ?_ | fail))
  refine c_if (fun hlt => ?_) fun hge => ?_
  · have hlt' : i < L.length := by omega
    obtain ⟨q1, q2, q3, q4, q5⟩ := chn_get cC i hlt'
    replace q3 := q3 rfl
    have hx := cL L[i] (List.getElem_mem hlt')
    have hU := lastU_take (a := 0) i hlt'
    have hS : 0 ≤ (seg W L[i].frm L[i].til).sum ∧ (seg W L[i].frm L[i].til).sum ≤ m := by
      have h1 := sum_take_le (l := seg W L[i].frm L[i].til) (seg W L[i].frm L[i].til).length (fun x hx => hWr x (List.mem_of_mem_drop (List.mem_of_mem_take hx)))
      rw [List.take_length] at h1
      have h2 := sum_take_le (l := L[i].gaps) L[i].gaps.length hx.gp
      rw [List.take_length] at h2
      have := hx.le
      omega
    (repeat (first | refine c_seq ?_ | refine c_block ?_ | refine c_skip ?_ | fail))
    refine c_draw0 mixed (by kernel_rfl) ?_
    (repeat (first | refine d_op (by first | exact t_moveG | exact t_move | exact t_pickF | exact t_neqF | exact t_idxN | exact t_load | exact t_fa | fail) ?_ | refine d_yes (by first | exact t_moveG | exact t_move | exact t_sub | exact t_leqF | exact t_neqF | exact t_len | exact t_idxN | exact t_load | exact t_fa | fail) ?_ | fail))
    refine d_nil (q_nil ?_ (by kernel_rfl))
    (repeat (first | refine c_seq ?_ | refine c_reg ?_ | refine c_rnil ?_ | refine c_block ?_ | refine c_skip ?_ | refine c_false ?_ | refine c_op (by first | exact t_moveG | exact t_move | exact t_assign | exact t_idxN | exact t_load | exact t_fa | fail) ?_ | fail))
    have hfr : L[i].frm = (L[i].frm.toNat : Int) := by omega
    refine c_loop (fun k : Nat => [(5, .pu (pPtr eText t)), (6, .pu (pI m)), (10, .gr eLine L 1 42), (12, .gr eI (endsS ps ps.length) 3 3), (13, .pu (pI (wordsN ps))), (17, .pu (pI i)), (18, .pu (pI (seg W L[i].frm k).sum)), (19, .pu (pI k))])
      (fun k => L[i].frm ≤ k ∧ (k : Int) ≤ L[i].til) (fun k => (L[i].til - k).toNat) L[i].frm.toNat ⟨by omega, by omega⟩ ⟨has_rfl rfl, has_rfl rfl, has_rfl rfl, has_rfl rfl, has_rfl rfl, has_rfl rfl, has_int rfl (by rw [← hfr, segP_self]; rfl), has_int rfl (by omega), trivial⟩ fun k hk ihk => ?_
    have hsk := sum_take_le (l := seg W L[i].frm L[i].til) (k - L[i].frm.toNat) (fun x hx => hWr x (List.mem_of_mem_drop (List.mem_of_mem_take hx)))
    rw [← segP_take (by omega) hk.1 hk.2] at hsk
    (repeat (first | refine c_seq ?_ | refine c_reg ?_ | refine c_rnil ?_ | refine c_op (by first | exact t_moveG | exact t_move | exact t_lss | exact t_idxN | exact t_load | exact t_fa | fail) ?_ | fail))
    refine c_if (fun hlt2 => ?_) fun hge2 => ?_
    · have hkl : k < ps.flatten.length := by rw [wordsN_flat]; omega
      have hkW : k < W.length := by rw [hWl, ← wordsN_flat]; exact hkl
      have he := congrArg List.sum (segP_snoc (W := W) (a := L[i].frm) (k := k) (by omega) hk.1 hkW)
      rw [List.sum_append, List.sum_cons, List.sum_nil, hWk k hkl] at he
      have hsk2 := sum_take_le (l := seg W L[i].frm L[i].til) (k + 1 - L[i].frm.toNat) (fun x hx => hWr x (List.mem_of_mem_drop (List.mem_of_mem_take hx)))
      rw [← segP_take (by omega) (by omega) (by omega)] at hsk2
      have gk := gf' k hkl
      generalize ps.flatten[k] = wd at *
      by_cases hk0 : L[i].frm < k
      · have hno := has_no (hx.noS k hk0 hlt2)
        (repeat (first | refine c_seq ?_ | refine c_reg ?_ | refine c_rnil ?_ | refine c_block ?_ | refine c_inBlock ?_ | refine c_skip ?_ | refine c_false ?_ | refine c_yes ?_ | refine c_op (by first | exact t_call (h := gk) | exact t_call (h := hno) | exact t_call (h := width25_f) | exact t_moveG | exact t_move | exact t_assign | exact t_pickT | exact t_pickF | exact t_add | exact t_not | exact t_gtrT | exact t_ext0 | exact t_ext1 | exact t_idxN | exact t_load | exact t_fa | exact t_allocV | fail) ?_ | refine c_stV ?_ | fail))
        exact (ihk (k + 1) ⟨by omega, by omega⟩ (by omega)).sub (by repeat (first | exact trivial | refine ⟨has_rfl rfl, ?_⟩ | refine ⟨has_int rfl (by first | omega | fail), ?_⟩))
      · (repeat (first | refine c_seq ?_ | refine c_reg ?_ | refine c_rnil ?_ | refine c_block ?_ | refine c_inBlock ?_ | refine c_skip ?_ | refine c_false ?_ | refine c_yes ?_ | refine c_no ?_ | refine c_op (by first | exact t_call (h := gk) | exact t_call (h := width25_f) | exact t_moveG | exact t_move | exact t_assign | exact t_pickF | exact t_add | exact t_not | exact t_gtrF | exact t_ext0 | exact t_ext1 | exact t_idxN | exact t_load | exact t_fa | exact t_allocV | fail) ?_ | refine c_stV ?_ | fail))
        exact (ihk (k + 1) ⟨by omega, by omega⟩ (by omega)).sub (by repeat (first | exact trivial | refine ⟨has_rfl rfl, ?_⟩ | refine ⟨has_int rfl (by first | omega | fail), ?_⟩))
    have hke : (k : Int) = L[i].til := by omega
    rw [hke]
    (repeat (first | refine c_seq ?_ | refine c_reg ?_ | refine c_rnil ?_ | refine c_block ?_ | refine c_exit ?_ | refine c_op (by first | exact t_assign | fail) ?_ | fail))
    refine c_loop (fun j : Nat => [(5, .pu (pPtr eText t)), (6, .pu (pI m)), (10, .gr eLine L 1 42), (12, .gr eI (endsS ps ps.length) 3 3), (13, .pu (pI (wordsN ps))), (17, .pu (pI i)), (18, .pu (pI ((seg W L[i].frm L[i].til).sum + (L[i].gaps.take j).sum))), (22, .pu (pI j))])
      (fun j => j ≤ L[i].gaps.length) (fun j => L[i].gaps.length - j) 0 (by omega) ⟨has_rfl rfl, has_rfl rfl, has_rfl rfl, has_rfl rfl, has_rfl rfl, has_rfl rfl, has_int rfl (by rw [List.take_zero, List.sum_nil]; omega), (by repeat (first | exact trivial | refine ⟨has_rfl rfl, ?_⟩ | fail))⟩ fun j hj ihj => ?_
    have hgl := hx.le
    have hgk := sum_take_le (l := L[i].gaps) j hx.gp
    (repeat (first | refine c_seq ?_ | refine c_reg ?_ | refine c_rnil ?_ | refine c_op (by first | exact t_moveG | exact t_move | exact t_lss | exact t_len | exact t_idxN | exact t_load | exact t_fa | fail) ?_ | fail))
    refine c_if (fun hlt3 => ?_) fun hge3 => ?_
    · have hj' : j < L[i].gaps.length := by omega
      have he : (L[i].gaps.take (j + 1)).sum = (L[i].gaps.take j).sum + L[i].gaps[j] := by
        rw [List.take_succ_eq_append_getElem hj', List.sum_append, List.sum_cons, List.sum_nil]
        omega
      have hgk2 := sum_take_le (l := L[i].gaps) (j + 1) hx.gp
      (repeat (first | refine c_seq ?_ | refine c_reg ?_ | refine c_rnil ?_ | refine c_block ?_ | refine c_inBlock ?_ | refine c_skip ?_ | refine c_op (by first | exact t_moveG | exact t_move | exact t_assign | exact t_add | exact t_idxN | exact t_load | exact t_fa | fail) ?_ | fail))
      exact (ihj (j + 1) (by omega) (by omega)).sub (by repeat (first | exact trivial | refine ⟨has_rfl rfl, ?_⟩ | refine ⟨has_int rfl (by first | omega | fail), ?_⟩))
    have hje : j = L[i].gaps.length := by omega
    subst hje
    rw [List.take_length]
    have hfit := hx.fit
    rcases (show (seg W L[i].frm L[i].til).sum + L[i].gaps.sum = m ∨ ((seg W L[i].frm L[i].til).sum + L[i].gaps.sum < m ∧ L[i].gaps.length = 0) ∨ ((seg W L[i].frm L[i].til).sum + L[i].gaps.sum < m ∧ 0 < L[i].gaps.length ∧ L[i].til ∈ endsS ps ps.length) by
      by_cases h1 : (seg W L[i].frm L[i].til).sum + L[i].gaps.sum = m
      · exact .inl h1
      · right
        have h2 : (seg W L[i].frm L[i].til).sum + L[i].gaps.sum < m := by omega
        rcases hfit h2 with h3 | h3
        · exact .inl ⟨h2, by rw [h3]; rfl⟩
        · rcases Nat.eq_zero_or_pos L[i].gaps.length with h4 | h4
          · exact .inl ⟨h2, h4⟩
          · exact .inr ⟨h2, h4, h3⟩) with h1 | ⟨h1, h2⟩ | ⟨h1, h2, h3⟩
    · (repeat (first | refine c_seq ?_ | refine c_reg ?_ | refine c_rnil ?_ | refine c_inBlock ?_ | refine c_exit ?_ | refine c_skip ?_ | refine c_false ?_ | refine c_yes ?_ | refine c_no ?_ | refine c_op (by first | exact t_moveG | exact t_move | exact t_assign | exact t_pickF | exact t_add | exact t_lssF | exact t_gtrF | exact t_idxN | exact t_load | exact t_fa | fail) ?_ | fail))
      exact (ih (i + 1) (by omega) (by omega)).sub (by repeat (first | exact trivial | refine ⟨has_rfl rfl, ?_⟩ | refine ⟨has_int rfl (by first | omega | fail), ?_⟩))
    · (repeat (first | refine c_seq ?_ | refine c_reg ?_ | refine c_rnil ?_ | refine c_inBlock ?_ | refine c_exit ?_ | refine c_skip ?_ | refine c_false ?_ | refine c_yes ?_ | refine c_no ?_ | refine c_op (by first | exact t_moveG | exact t_move | exact t_assign | exact t_pickT | exact t_pickF | exact t_add | exact t_lssT | exact t_gtrF | exact t_len | exact t_idxN | exact t_load | exact t_fa | fail) ?_ | fail))
      exact (ih (i + 1) (by omega) (by omega)).sub (by repeat (first | exact trivial | refine ⟨has_rfl rfl, ?_⟩ | refine ⟨has_int rfl (by first | omega | fail), ?_⟩))
    · (repeat (first | refine c_seq ?_ | refine c_reg ?_ | refine c_rnil ?_ | refine c_inBlock ?_ | refine c_exit ?_ | refine c_skip ?_ | refine c_false ?_ | refine c_yes ?_ | refine c_op (by first | exact t_call (h := (has_t h3)) | exact t_moveG | exact t_move | exact t_assign | exact t_pickT | exact t_pickF | exact t_add | exact t_not | exact t_lssT | exact t_gtrT | exact t_gtrF | exact t_len | exact t_idxN | exact t_load | exact t_fa | fail) ?_ | fail))
      exact (ih (i + 1) (by omega) (by omega)).sub (by repeat (first | exact trivial | refine ⟨has_rfl rfl, ?_⟩ | refine ⟨has_int rfl (by first | omega | fail), ?_⟩))
  have hie : i = L.length := by omega
  subst hie
  rw [List.take_length]
  have eL := chn_end cC
  (repeat (first | refine c_seq ?_ | refine c_reg ?_ | refine c_rnil ?_ | refine c_exit ?_ | refine c_yes ?_ | refine c_op (by first | exact t_call (h := cf) | exact t_call (h := lives_f) | exact t_move | exact t_assign | exact t_pickT | exact t_eqlT | exact t_load | fail) ?_ | fail))
  refine c_ret1 Tryd.func4 rfl ?_
  exact fun h => h
end Go.Proofs.YtedlipgopicijaaDoor
end

section
namespace Go.Proofs.YtedlipgopicijaaDoor
set_option maxRecDepth 100000
open Go Go.RowKit Go.Deep
def Rd {α : Type} (P : Program) (E : Enc α) (t : TypeId) : Prop := ∀ {H : Type} {enc : TypeId × Value → H} {W : World} {base : Nat} {spare : Nat → Bool} {held : Bool} {fuel : Nat} {cs : List Value} {x : DataW H × List MemPlace},
  DataW.trod enc P W base spare held fuel t cs = some x → (∀ n ∈ x.1.weights P t, n ≤ reachBytes) → ∃ d, E.R (fun _ => none) W cs d
section
variable {P : Program}
theorem rd_int {t : TypeId} (ht : P.underlying t = some (.int .i64)) : Rd P eI t := fun h _ => by
  obtain ⟨n, rfl, _, hw⟩ := DataW.trod_int ht h
  refine ⟨n, rfl, fun _ => ?_, fun e => by cases e⟩
  simp [Lit.wf] at hw
  exact hw
theorem weights_all {H : Type} {e : TypeId} : ∀ {l : List (DataW H)} {d : DataW H}, d ∈ l → ∀ n ∈ d.weights P e, n ∈ DataW.weightsAll P e l
  | x :: r, d, hd, n, hn => by
    simp only [DataW.weightsAll, List.mem_append]
    rcases List.mem_cons.1 hd with rfl | hd
    · exact .inl hn
    · exact .inr (weights_all hd n hn)
theorem rd_slice {α : Type} [Inhabited α] {E : Enc α} {t e : TypeId} (ht : P.underlying t = some (.slice e)) (hC : P.cellsOf e = E.sz) (hB : P.bytesOf e = E.by_) (hE : Rd P E e) : Rd P (eSl E) t := fun {H enc W base spare held fuel cs x} h hw => by
  rcases open_slice ht h with ⟨rfl, _⟩ | ⟨a, len, cap, m, n, D, Pl, rfl, hb, hl, hm, hmm, hx, hi⟩
  · exact ⟨[], _, rfl, SlOf.nil _ _ _⟩
  · subst hx
    simp only [DataW.weights, ht] at hw
    have hle : len ≤ m := by rw [hmm]; split <;> omega
    have hbytes : len * E.by_ ≤ 140737488351232 := by
      have := hw _ (by exact List.mem_cons_self)
      simp only [List.length_map, List.length_range, hB] at this
      have h2 : len * E.by_ ≤ (len + (m - len)) * E.by_ := Nat.mul_le_mul_right _ (by omega)
      exact Nat.le_trans h2 this
    have hel : ∀ i, i < len → ∃ d, Elem E (fun _ => none) W (a.add (i * E.sz)) d := fun i hi' => by
      obtain ⟨cs', hc, htr⟩ := hi i (by omega)
      obtain ⟨d, hd⟩ := hE htr (fun k hk => hw k (List.mem_cons_of_mem _ (List.mem_append_left _ (weights_all (List.mem_map.2 ⟨i, List.mem_range.2 hi', rfl⟩) k hk))))
      rw [hC] at hc
      obtain ⟨_, hcl, hat⟩ := World.cells?_some hc
      refine ⟨d, cs', hd, fun j c hj => ?_⟩
      have hjl : j < cs'.length := (List.getElem?_eq_some_iff.1 hj).1
      have := hat j (by omega)
      exact ⟨this.trans hj, fun p hp => by cases hp⟩
    obtain ⟨f, hf⟩ := choose_lt hel
    refine ⟨(List.range len).map f, _, rfl, a, cap, by simp, by simpa using hl, hm, (fun h => by cases h), by simpa using hbytes, fun ad he i hi' => ?_⟩
    cases he
    have hi2 : i < len := by simpa using hi'
    have := hf i hi2
    simpa using this
end
instance : Inhabited Line := ⟨⟨0, 0, [], []⟩⟩
theorem rdI : Rd Tryd.prog eI 3 := rd_int Tryd.underlying3
theorem rdSI : Rd Tryd.prog (eSl eI) 22 := rd_slice Tryd.underlying22 (by kernel_rfl) (by kernel_rfl) rdI
end Go.Proofs.YtedlipgopicijaaDoor
end

section
namespace Go.Proofs.YtedlipgopicijaaDoor
open Go Go.ChangeShapes Go.WideShapes Go.ChangeAt Go.RowKit
theorem paraCoversOwn : ownKnob Tryd.prog.godebug = none := by kernel_rfl
theorem paraCoversLaid : laidOutB Tryd.prog = true := by kernel_rfl
theorem paraCoversWf {n : Int} (h : (Lit.int .i64 n).wf = true) : I64 n := by
  simp [Lit.wf] at h
  exact h
abbrev paraCoversTab : List (String × DataW Unit) := [("rollbook/glyph.widths", Lib.tabData .u8 tbl)]
theorem paraCoversTabs {W : World} (h : laidMetH Tryd.prog paraCoversTab W) : Lays (fun _ => none) W := by
  rw [MakeChecks.laidMetH_plain _ _ _ (by kernel_rfl)] at h
  have hg : Tryd.prog.globalNamed "rollbook/glyph.widths" = some 0 := by kernel_rfl
  have hT := Lib.tabIs_of_head hg (t := 96) (e := 5) (n := 94) (by kernel_rfl) (by kernel_rfl) (by kernel_rfl) (by kernel_rfl) (by kernel_rfl) h
  refine ⟨fun i hi => ⟨?_, fun _ e => by cases e⟩⟩
  have := hT.cell hg i hi
  rw [List.getD_eq_getElem?_getD, List.getElem?_eq_getElem hi] at this
  exact this
theorem paraCoversDoor (os : Os) (args : Array Value) : laidMetH Tryd.prog paraCoversTab ((World.doorLaid Tryd.prog 400 os).forCall (fun _ _ => 0) ⟨#[], args, []⟩).memory :=
  laidMetH_of_parts3 (fuel := 8) (laidMet_of_run' 8 (by kernel_rfl) (by kernel_rfl)) (by kernel_rfl) (by kernel_rfl)
set_option maxRecDepth 100000 in
theorem paraCoversLifted (os : Os) (started : os.Started) (H : Type) (enc : TypeId × Value → H) :
    ReturnsInHanded {} Tryd.checked os 4 .any (fun w args => (Rows.paraCoversSpec.pre enc Tryd.prog Tryd.f4 [] false w args ∧ laidMetH Tryd.prog paraCoversTab w) ∧ sizedMet enc Tryd.prog Tryd.f4 (OpenSpec.ofChange Rows.paraCoversSpec) false w args)
      (Rows.paraCoversSpec.post enc Tryd.prog Tryd.f4 false true false false) := by
  refine returnsInHanded_of_change_and (C := Tryd.checked) (X := fun w _ => laidMetH Tryd.prog paraCoversTab w) (fun _ _ _ hh h => h.of_heap hh) paraCoversOwn started (by kernel_rfl) Tryd.func4
    (ChangeSpec.witness_shaped (enc := enc) (C := Tryd.checked) (os := os) (X := fun w _ => laidMetH Tryd.prog paraCoversTab w) false (World.doorLaid Tryd.prog 400 os) #[.slice none 0 0, .int .i64 0] 8 rfl (World.shaped_of_RefB (by kernel_rfl) (by kernel_rfl)) (by kernel_rfl) (by kernel_rfl) (by kernel_rfl) (paraCoversDoor os _)) ?_
  intro W base args ds gs before hval0 hW hcnd hsz hL _
  have hval : ∀ (j : Nat) t v, Tryd.f4.params[j]? = some t → args[j]? = some v → Value.okWide Tryd.prog W .any base t v := hval0
  have hW' := hW
  obtain ⟨p, q, hA0, hV, rfl, hfz, hnd⟩ := hW
  have hA : DataW.TrodAll enc Tryd.prog W 0 (fun _ => true) true Tryd.f4.params.toList args.toList ds p := hA0
  rw [Tryd.params4] at hA hval
  obtain ⟨v0, vs0, d0, ds0, p0, q0, hargs, rfl, rfl, h0, r0⟩ := trodAll_cons hA
  obtain ⟨v1, vs1, d1, ds1, p1, q1, rfl, rfl, rfl, h1, r1⟩ := trodAll_cons r0
  obtain ⟨rfl, rfl, rfl⟩ := trodAll_nil r1
  obtain rfl : args = #[v0, v1] := by cases args; simp_all
  obtain ⟨rfl, rfl⟩ := trodVars_none hV
  obtain ⟨a0, len0, cap0, rfl⟩ := okWide_slice Tryd.underlying22 (hval 0 22 v0 rfl rfl)
  have k0 := h0
  have lt0 : ∀ x ∈ p0, x.block < W.heap.size := by obtain ⟨m, hm⟩ := k0; exact DataW.trod_lt m _ _ _ hm
  obtain ⟨z0, w0⟩ : ∃ l, SlOf eI (fun _ => none) W (.slice a0 len0 cap0) l := by
    obtain ⟨fuel, hf⟩ := h0
    obtain ⟨l, u, hu, hs⟩ := rdSI hf (fun n hn => by
      have := List.all_eq_true.1 hsz n (DataW.weights_mem_each (j := 0) (t := 22) (d := d0) rfl rfl n hn)
      simpa using this)
    simp [Value.cells] at hu
    subst hu
    exact ⟨l, hs⟩
  obtain ⟨a1, rfl, rfl, rfl, w1⟩ := open_int Tryd.underlying3 (hval 1 3 v1 rfl rfl) h1
  clear hA0 hval0
  refine Calls.mono (paraCovers_f.run (fun _ => none) W [.slice a0 len0 cap0, .int .i64 a1] (fun _ _ => rfl) (paraCoversTabs hL) ⟨w0, ⟨rfl, fun _ => paraCoversWf w1, fun e => by cases e⟩, trivial⟩) fun e W' ⟨v, he, hv, bel⟩ => ?_
  have hv : v = .bool true := hv
  subst he hv
  exact ⟨_, rfl, _, _, _, [], _, [], hW', trodAll_mk1 (shut_bool Tryd.underlying4 _), (trodAll_cons_mk (Below.trod paraCoversLaid (by kernel_rfl) (of_decide_eq_true (by kernel_rfl)) k0 bel lt0) (trodAll_cons_mk (shut_int Tryd.underlying3 w1) trodAll_mk0)), rfl, bel.frame _, fun h => by cases h⟩
theorem paraCovers_proved : Rows.ParaCoversSaid :=
  OpenClaim.holds_of_wide 4 Tryd.f4 rfl rfl rfl rfl rfl rfl rfl ⟨rfl, rfl, rfl, rfl, rfl⟩ rfl rfl rfl rfl rfl (by kernel_rfl) Tryd.func4 (by kernel_rfl)
    (of_decide_eq_true (by kernel_rfl)) (by unfold Func.isWrapper; first | (rw [if_pos (by decide +kernel)]; kernel_rfl) | (rw [if_neg (by decide +kernel)]; exact ⟨rfl, rfl⟩))
    (fun os started H enc _ => paraCoversLifted os started H enc)
theorem paraCovers_card : Rows.ParaCoversCardSaid :=
  Claim7.holds_tied_plain_at .later [] [.data] true (true, "3e1017bbe245d220a28fd9e6071ba9ea44c5eed799b6b6bde6659dd7b8f8309f") false
    paraCovers_proved (fun _ h => by cases h) (by kernel_rfl) (fun _ h => by cases h) paraCovers_row_tie rfl ⟨rfl, rfl⟩ (by kernel_rfl) rfl
    (fun f fn hf hfn => by
      obtain rfl : f = 4 := Option.some.inj ((show Tryd.prog.funcNamed "rollbook/rollbooklaw26.ParaCovers" = some 4 by kernel_rfl).symm.trans hf) |>.symm
      obtain rfl : fn = Tryd.f4 := (Option.some.inj (Tryd.func4.symm.trans hfn)).symm
      exact ⟨by kernel_rfl, fun j t ht => by
        rw [Tryd.params4] at ht
        have hm : t ∈ [22, 3] := by simpa using Array.mem_of_getElem? ht
        have hall : ([22, 3].all fun u => !Tryd.prog.wantsStandIn u) = true := by kernel_rfl
        exact (show Tryd.prog.wantsStandIn t = false by simpa using List.all_eq_true.1 hall t hm)⟩)
    (by kernel_rfl)
end Go.Proofs.YtedlipgopicijaaDoor
end
