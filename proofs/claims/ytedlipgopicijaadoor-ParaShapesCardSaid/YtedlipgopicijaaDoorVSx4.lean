/-
  ParaShapes: for all inputs the law returns true, and the inputs read as they did; the table of widths is tied to the text.
-/
import Derived.Calls
import Derived.Orders
import Derived.Below
import Derived.KernelRfl
import Derived.WalkKit
import Derived.Laws.AppendOwn
import Derived.Laws.Rows
import Derived.Deep.Slices
import Derived.Laws.OwnMore
import Derived.Laws.MakeOwn
import Derived.Laws.CopyRow
import Derived.Still
import Derived.Lib.SliceRun
import Derived.Test.YtedlipgopicijaaDoorChecked
import Derived.Lib.AppendZeros
import Derived.Scope
import Derived.Shelf.Strings.Repeat
import Derived.Ground.NamesProg
import Derived.SizedLaws
import Derived.Test.YtedlipgopicijaaDoorRows
import Derived.Test.YtedlipgopicijaaDoorCards
import Derived.Test.YtedlipgopicijaaDoorTie
import Derived.Lib.LaidTab
import Derived.LaidMore
import Derived.SevenTiedAt
import Derived.ProofKit
import Derived.OpenShut
import Derived.ChangeOld
import Derived.Test.YtedlipgopicijaaDoorVSx3
section
namespace Go.Proofs.YtedlipgopicijaaDoor
open Go Go.RowKit
def tailsA : Array (Nat × Value) := #[(0, .string ⟨#[]⟩), (1, .string ⟨#[69, 105]⟩), (2, .string ⟨#[105]⟩), (3, .string ⟨#[116]⟩), (4, .string ⟨#[97]⟩), (5, .string ⟨#[69]⟩)]
def tailsC : Array Value := #[.string ⟨#[]⟩, .string ⟨#[69, 105]⟩, .string ⟨#[105]⟩, .string ⟨#[116]⟩, .string ⟨#[97]⟩, .string ⟨#[69]⟩]
theorem tails_bld (w : World) : (Instr.build 82 tailsA).run Tryd.prog w = .ok (.agg tailsC) w := by kernel_rfl
set_option maxRecDepth 100000 in
theorem tails_idx {j : Nat} (h : j < 6) (w : World) : (Instr.index 82 (.agg tailsC) (.int .i64 (j : Int))).run Tryd.prog w = .ok (.string ((tailsV[j]?).getD ⟨#[]⟩)) w := by
  match j, h with
  | 0, _ => exact (by kernel_rfl : (Instr.index 82 (.agg tailsC) (.int .i64 0)).run Tryd.prog w = .ok (.string ⟨#[]⟩) w)
  | 1, _ => exact (by kernel_rfl : (Instr.index 82 (.agg tailsC) (.int .i64 1)).run Tryd.prog w = .ok (.string ⟨#[69, 105]⟩) w)
  | 2, _ => exact (by kernel_rfl : (Instr.index 82 (.agg tailsC) (.int .i64 2)).run Tryd.prog w = .ok (.string ⟨#[105]⟩) w)
  | 3, _ => exact (by kernel_rfl : (Instr.index 82 (.agg tailsC) (.int .i64 3)).run Tryd.prog w = .ok (.string ⟨#[116]⟩) w)
  | 4, _ => exact (by kernel_rfl : (Instr.index 82 (.agg tailsC) (.int .i64 4)).run Tryd.prog w = .ok (.string ⟨#[97]⟩) w)
  | 5, _ => exact (by kernel_rfl : (Instr.index 82 (.agg tailsC) (.int .i64 5)).run Tryd.prog w = .ok (.string ⟨#[69]⟩) w)
theorem tails_size {j : Nat} (h : j < 6) : ((tailsV[j]?).getD ⟨#[]⟩ : ByteArray).size ≤ 2 := by
  match j, h with
  | 0, _ => decide
  | 1, _ => decide
  | 2, _ => decide
  | 3, _ => decide
  | 4, _ => decide
  | 5, _ => decide
theorem tails_ei {j : Nat} (h : j < 6) : decide (((tailsV[j]?).getD ⟨#[]⟩ : ByteArray) = ⟨#[69, 105]⟩) = decide (j = 1) := by
  match j, h with
  | 0, _ => decide
  | 1, _ => decide
  | 2, _ => decide
  | 3, _ => decide
  | 4, _ => decide
  | 5, _ => decide
section
variable {P : Program} {N : Nat} {G : TF} {d : Option Tmp} {ty : TypeId} {pos : String} {aft : Array Edge} {g : Option (Nat × Bool)}
theorem t_bldC {t : TypeId} {parts : Array (Nat × Operand)} {vals : Array (Nat × Value)} {v : Value} (h2 : ∀ w, (Instr.build t vals).run P w = .ok v w) (h1 : ∀ a : Act, (parts.toList.map fun x => match x with | (i, x) => (i, a.eval x)) = vals.toList := by intro a; rfl) :
    TOp P N ⟨d, .build t parts, ty, pos, aft, g⟩ G [] (.pu (pv v)) := .pure [] (by simp) fun {B M w fr} hf =>
  OP.val (v := v) (fun a ha => by
    have e : (parts.map fun x => match x with | (i, x) => (i, a.eval x)) = vals := by
      apply Array.toList_inj.1
      rw [Array.toList_map]
      exact h1 a
    simp only [execOp]
    rw [e, Sem.run_bind, h2 w]
    rfl) ⟨rfl, rfl⟩
theorem t_idxTail {x i : Operand} {m : Int} {j : Nat} (hm : m = j) (hj : j < 6) (hx : topP G x = some (pv (.agg tailsC)) := by rfl) (hi : topP G i = some (pI m) := by rfl) :
    TOp Tryd.prog N ⟨d, .index 82 x i, ty, pos, aft, g⟩ G [] (.pu (pS ((tailsV[j]?).getD ⟨#[]⟩))) := .pure [x, i] (by simp [Op.operands]) fun {B M w fr} hf => by
  subst hm
  obtain ⟨_, h0, rfl⟩ := hf.op hx (by simp)
  obtain ⟨_, h2, rfl, _⟩ := hf.op hi (by simp)
  have := tails_size hj
  exact OP.val (v := .string ((tailsV[j]?).getD ⟨#[]⟩)) (fun a ha => by
    simp only [execOp, ha.eval h0, ha.eval h2]
    rw [Sem.run_bind, tails_idx hj w]
    rfl) ⟨rfl, rfl, by omega⟩
theorem t_eqlSB {x y : Operand} {s r : ByteArray} {b : Bool} {t u : TypeId} (h : decide (s = r) = b) (hx : topP G x = some (pS s) := by rfl) (hy : topP G y = some (pS r) := by rfl) :
    TOp P N ⟨d, .binOp .eql t x y u, ty, pos, aft, g⟩ G [] (.pu (pB b)) := by
  rw [← h]
  exact t_eqlStr hx hy
theorem t_addStr {x y : Operand} {s r : ByteArray} {t u : TypeId} (h : s.size + r.size ≤ 140737488351232) (hx : topP G x = some (pS s) := by rfl) (hy : topP G y = some (pS r) := by rfl) :
    TOp P N ⟨d, .binOp .add t x y u, ty, pos, aft, g⟩ G [] (.pu (pS (s ++ r))) := .pure [x, y] (by simp [Op.operands]) fun {B M w fr} hf => by
  obtain ⟨_, h0, rfl, _⟩ := hf.op hx (by simp)
  obtain ⟨_, h2, rfl, _⟩ := hf.op hy (by simp)
  exact OP.val (v := .string (s ++ r)) (fun a ha => by
    have hr := run_string_add_sum (P := P) w s r (by omega)
    simp [execOp, eqGuard, ha.eval h0, ha.eval h2, binOp_string_add, hr]) ⟨rfl, rfl, by rw [ByteArray.size_append]; exact h⟩
end
def RepG : Prop := ∀ k : Nat, k ≤ 40 → Fn Tryd.prog 51 [pS ⟨#[109]⟩, pI (k : Int)] (pS (mS k))
theorem repE (rep : RepG) {m : Int} {k : Nat} (hm : m = k) (hk : k ≤ 40) : Fn Tryd.prog 51 [pS ⟨#[109]⟩, pI m] (pS (mS k)) := hm ▸ rep k hk
set_option maxHeartbeats 1000000 in
theorem fill_f (rep : RepG) {w : Int} (h : 4 ≤ w ∧ w ≤ 480 ∧ w % 2 = 0) : Fn Tryd.prog 26 [pI w] (pT2 (pS (fillS w)) (pB true)) := by
  have e1 : w.tmod 2 = 0 := by rw [Int.tmod_eq_emod_of_nonneg (by omega)]; omega
  have e2 : w.tdiv 12 = w / 12 := Int.tdiv_eq_ediv_of_nonneg (by omega)
  have e3 : w.tmod 12 = w % 12 := Int.tmod_eq_emod_of_nonneg (by omega)
  have e4 : (w.tmod 12).tdiv 2 = w % 12 / 2 := by rw [e3]; exact Int.tdiv_eq_ediv_of_nonneg (by omega)
  obtain ⟨j, hj⟩ : ∃ j : Nat, (w.tmod 12).tdiv 2 = j := ⟨(w % 12 / 2).toNat, by omega⟩
  have hj6 : j < 6 := by omega
  have hts := tails_size hj6
  have hei := tails_ei hj6
  obtain ⟨k, hk⟩ : ∃ k : Nat, k = fillK w j := ⟨_, rfl⟩
  have hfs : fillS w = mS k ++ (tailsV[j]?).getD ⟨#[]⟩ := by unfold fillS; rw [hj, hk, Int.toNat_natCast]
  rw [hfs]
  have hms := mS_size k
  unfold fillK at hk
  refine fn_of ent26 Tryd.func26 rfl Tryd.ntmps26 rfl fun M0 w0 => ?_
  by_cases h1 : j = 1
  · rw [decide_eq_true h1] at hei
    rw [if_pos (by omega)] at hk
    have hk2 : w.tdiv 12 - 1 = k := by omega
    have hk3 : k ≤ 40 := by omega
    have had : (mS k).size + ((tailsV[j]?).getD ⟨#[]⟩ : ByteArray).size ≤ 140737488351232 := by omega
    (repeat (first | refine c_seq ?_ | refine c_reg ?_ | refine c_rnil ?_ | refine c_skip ?_ | refine c_false ?_ | refine c_yes ?_ | refine c_op (by first | exact t_move | exact t_assign | exact t_pickF | exact t_lssF | exact t_gtrF | exact t_neqF | exact t_rem | fail) ?_ | fail))
    refine c_draw0 mixed (by kernel_rfl) ?_
    (repeat (first | refine d_op (by first | exact (t_bldC tails_bld) | exact (t_idxTail hj hj6) | exact t_move | exact t_assign | exact t_quo | exact t_rem | fail) ?_ | fail))
    refine d_nil (q_nil ?_ (by kernel_rfl))
    (repeat (first | refine c_seq ?_ | refine c_reg ?_ | refine c_rnil ?_ | refine c_true ?_ | refine c_op (by first | exact (t_eqlSB hei) | exact t_call (h := (repE rep hk2 hk3)) | exact (t_addStr had) | exact t_move | exact t_assign | exact t_sub | fail) ?_ | fail))
    refine c_ret2 Tryd.func26 rfl ?_
    exact fun h1 h2 => ⟨_, _, rfl, h1, h2⟩
  · rw [decide_eq_false h1] at hei
    rw [if_neg (by omega)] at hk
    have hk2 : w.tdiv 12 = k := by omega
    have hk3 : k ≤ 40 := by omega
    have had : (mS k).size + ((tailsV[j]?).getD ⟨#[]⟩ : ByteArray).size ≤ 140737488351232 := by omega
    (repeat (first | refine c_seq ?_ | refine c_reg ?_ | refine c_rnil ?_ | refine c_skip ?_ | refine c_false ?_ | refine c_yes ?_ | refine c_op (by first | exact t_move | exact t_assign | exact t_pickF | exact t_lssF | exact t_gtrF | exact t_neqF | exact t_rem | fail) ?_ | fail))
    refine c_draw0 mixed (by kernel_rfl) ?_
    (repeat (first | refine d_op (by first | exact (t_bldC tails_bld) | exact (t_idxTail hj hj6) | exact t_move | exact t_assign | exact t_quo | exact t_rem | fail) ?_ | fail))
    refine d_nil (q_nil ?_ (by kernel_rfl))
    (repeat (first | refine c_seq ?_ | refine c_reg ?_ | refine c_rnil ?_ | refine c_skip ?_ | refine c_false ?_ | refine c_op (by first | exact (t_eqlSB hei) | exact t_call (h := (repE rep hk2 hk3)) | exact (t_addStr had) | exact t_move | exact t_assign | fail) ?_ | fail))
    refine c_ret2 Tryd.func26 rfl ?_
    exact fun h1 h2 => ⟨_, _, rfl, h1, h2⟩
end Go.Proofs.YtedlipgopicijaaDoor
end

section
namespace Go.Proofs.YtedlipgopicijaaDoor
open Go Go.RowKit
end Go.Proofs.YtedlipgopicijaaDoor
end

section
namespace Go.Proofs.YtedlipgopicijaaDoor
open Go Go.RowKit
structure LnF (W S : List Int) (m : Int) (x : Line) : Prop where
  le : (seg W x.frm x.til).sum + x.gaps.sum ≤ m
  fit : (seg W x.frm x.til).sum + x.gaps.sum < m → x.gaps = [] ∨ x.til ∈ S
  noS : ∀ k, x.frm < k → k < x.til → k ∉ S
  lo : 0 ≤ x.frm
  lt : x.frm < x.til
  hi : x.til ≤ W.length
  gp : ∀ g ∈ x.gaps, 0 ≤ g
end Go.Proofs.YtedlipgopicijaaDoor
end

section
namespace Go.Proofs.YtedlipgopicijaaDoor
open Go Go.RowKit
def pE0 : Pub := ⟨fun _ _ v => ∃ a, v = .slice a 0 0, fun _ h => h⟩
section
variable {P : Program} {N : Nat} {G : TF} {d : Option Tmp} {ty : TypeId} {pos : String} {aft : Array Edge} {g : Option (Nat × Bool)}
theorem t_bs0 {t e : TypeId} {α : Type} {E : Enc α} (ht : USl P t e := by infer_instance) (hE : TEc P e E := by infer_instance) : TOp P N ⟨d, .buildSlice t 0 #[], ty, pos, aft, g⟩ G [] (.pu pE0) := .up [] (by simp) fun {M0 w0 M w fr} hr _ =>
  op_buildSlice (parts := []) (vs := []) (l := []) ht.out hE.out hr rfl rfl trivial rfl (by simp) fun _ _ _ k2 k3 => ⟨k3, k2⟩
theorem SlOf.e0 {α : Type} (E : Enc α) (M : Mut) (w : World) (a : Option Addr) : SlOf E M w (.slice a 0 0) ([] : List α) :=
  ⟨a, 0, rfl, Nat.le_refl _, Nat.zero_le _, fun _ => rfl, by simp, fun _ _ i hi => by simp at hi⟩
theorem Grow.e0 {B : Nat} {M : Mut} {w : World} {a : Option Addr} {sz tag : Nat} {e : TypeId} : Grow B M w (.slice a 0 0) 0 sz tag e := ⟨.inl ⟨a, rfl⟩⟩
theorem t_appE {α : Type} {E : Enc α} {x y : Operand} {l2 : List α} {t e : TypeId} (tag : Nat) (hx : topP G x = some pE0 := by rfl) (hy : topP G y = some (pSl E l2) := by rfl)
    (ht : USl P t e := by infer_instance) (hE : TEc P e E := by infer_instance) :
    TOp P N ⟨d, .call ⟨.builtin .append, #[x, y], #[t, t]⟩, ty, pos, aft, g⟩ G [tag] (.gr E l2 tag e) := ⟨[x, y], by simp [Op.operands, Call.operands], fun {M0 w0 M w fr} hr hf => by
  obtain ⟨_, k0, a, rfl⟩ := hf.op hx (by simp)
  obtain ⟨u, k3, k4⟩ := hf.op hy (by simp)
  exact op_append ht.out hE.out k0 k3 hr (SlOf.e0 E M w a) Grow.e0 k4 (by have := k4.bytes; simpa using this) fun v' w' M' h1 h2 h3 => ⟨M', StW.st h3, h1, h2⟩⟩
end
section
variable {P : Program} {f : FuncId} {N : Nat} {M0 : Mut} {w0 : World} {G : TF} {k : List Item}
end
end Go.Proofs.YtedlipgopicijaaDoor
end

section
namespace Go.Proofs.YtedlipgopicijaaDoor
open Go Go.RowKit
def planB (k m tag : Nat) : Plan := { tag := List.replicate k none ++ [some tag], pre := List.replicate (k + 1) [] ++ List.replicate (m - k - 1) [tag], oth := List.replicate k [tag] ++ [[]] ++ List.replicate (m - k - 1) [tag] }
theorem map_split {α β : Type} (f : α → β) {R a b : List α} (h : R.map f = a.map f ++ b.map f) : (R.take a.length).map f = a.map f ∧ (R.drop a.length).map f = b.map f := by
  rw [List.map_take, List.map_drop, h]
  have e : a.length = (a.map f).length := by simp
  rw [e, List.take_left, List.drop_left]
  exact ⟨rfl, rfl⟩
set_option maxHeartbeats 16000000 in
theorem paraShapes_f (rep : RepG) {l : List Int} {n which : Int} : Fn Tryd.prog 7 [pSl eI l, pI n, pI which] (pB true) := by
  have hv := textM_vt l
  obtain ⟨t, ht⟩ : ∃ t, t = textM l := ⟨_, rfl⟩
  have tf := textV_f (l := l)
  have tx := text_f (l := l)
  rw [← ht] at hv tf tx
  have wf0 := width_f (n := n)
  have hmb := measM_bd n
  generalize measM n = m at wf0 hmb
  have e0 := hv.err hmb
  have f3 := linesT_f (t := t) (m := m) hv.h48
  rw [e0, if_pos rfl, if_pos rfl] at f3
  have ha3 := aro_bd which 3 (by omega)
  refine fn_of ent7 Tryd.func7 rfl Tryd.ntmps7 rfl fun M0 w0 => ?_
  (repeat (first | refine c_seq ?_ | fail))
  refine c_reg ?_
  (repeat (first | refine c_seq ?_ | refine c_rnil ?_ | refine c_op (by first | exact t_assign | fail) ?_ | fail))
  (repeat (first | refine c_seq ?_ | fail))
  refine c_reg ?_
  (repeat (first | refine c_seq ?_ | refine c_rnil ?_ | refine c_op (by first | exact t_call (h := tf) | exact t_move | exact t_allocV | fail) ?_ | refine c_stV ?_ | fail))
  (repeat (first | refine c_seq ?_ | fail))
  refine c_reg ?_
  (repeat (first | refine (c_opE 200 (t_callTx 20 tx)) ?_ | refine c_op (by first | exact t_move | fail) ?_ | fail))
  rintro ⟨⟨rows, nrows⟩, hr, hnr⟩
  dsimp only at hr hnr ⊢
  (repeat (first | refine c_seq ?_ | refine c_rnil ?_ | refine (c_stV (hE := teTxR)) ?_ | refine c_op (by first | exact (t_allocV (hE := teTxR)) | fail) ?_ | fail))
  have hnp := hv.np
  have hnn := hv.nn
  have hrl : rows.length = t.paras.length := by rw [← hr, List.length_map]
  have hnl : nrows.length = t.notes.length := by rw [← hnr, List.length_map]
  have hrv : (rows.map RowD.v).length = rows.length := by simp
  have hnv : (nrows.map RowD.v).length = nrows.length := by simp
  (repeat (first | refine c_seq ?_ | fail))
  refine c_draw (planB 3 6 2) 6 2 [] [2] mixed (by kernel_rfl) rfl rfl ?_
  (repeat (first | refine d_op (by first | exact (t_bs0) | exact (t_faR0) | exact (t_faR1) | exact (t_ldSRaw) | exact (t_appE 2 (hE := teRaw)) | fail) ?_ | fail))
  refine d_nil ?_
  refine q_op 6 (by kernel_rfl) rfl (t_app (hE := teRaw)) ?_
  refine q_op 7 (by kernel_rfl) rfl t_assignG ?_
  refine q_nil ?_ (by kernel_rfl)
  obtain ⟨R0, hR0⟩ : ∃ R, R = rows ++ nrows := ⟨_, rfl⟩
  obtain ⟨vs, hvs⟩ : ∃ vs, vs = R0.map RowD.v := ⟨_, rfl⟩
  obtain ⟨sg, hsg⟩ : ∃ sg, sg = R0.map fun r => r.ws.map sig := ⟨_, rfl⟩
  have hws : R0.map RowD.ws = t.paras ++ t.notes := by rw [hR0, List.map_append, hr, hnr]
  have inv0 : InvR sg vs R0 := ⟨hvs.symm, hsg.symm, fun r hr' w hw => by
    have : r.ws ∈ t.paras ++ t.notes := by rw [← hws]; exact List.mem_map.2 ⟨r, hr', rfl⟩
    rcases List.mem_append.1 this with h | h
    · exact hv.par _ h w hw
    · exact (hv.not _ h w hw).1⟩
  have hR0l : R0.length = rows.length + nrows.length := by rw [hR0, List.length_append]
  have hsl : sg.length = R0.length := by rw [hsg, List.length_map]
  have hw40 : ∀ R, InvR sg vs R → R.length = sg.length ∧ ∀ r ∈ R, r.ws.length ≤ 40 := fun R h => by
    refine ⟨by have := congrArg List.length h.sg; simpa using this, fun r hr' => ?_⟩
    have : r.ws.map sig ∈ R0.map fun r => r.ws.map sig := by rw [← hsg, ← h.sg]; exact List.mem_map.2 ⟨r, hr', rfl⟩
    obtain ⟨r0, h0, e⟩ := List.mem_map.1 this
    have h1 := len_sig e
    have h2 : r0.ws ∈ t.paras ++ t.notes := by rw [← hws]; exact List.mem_map.2 ⟨r0, h0, rfl⟩
    have := (hv.len _ h2).2
    omega
  (repeat (first | refine c_seq ?_ | refine c_reg ?_ | refine c_rnil ?_ | refine c_block ?_ | refine c_op (by first | exact t_assign | fail) ?_ | fail))
  refine c_loop (fun x : Nat × List RowD => [(1, .pu (pI n)), (2, .pu (pI which)), (7, .pu (pPtr eText t)), (8, .pu (pPtr eTxR ⟨rows.map RowD.v, nrows.map RowD.v⟩)), (9, .pu (pSl eRaw (x.2.map RowD.v))), (200, .gh (rowsG 20 x.2)), (10, .pu (pI x.1))])
    (fun x => x.1 ≤ sg.length ∧ InvR sg vs x.2) (fun x => sg.length - x.1) (0, R0) ⟨Nat.zero_le _, inv0⟩ ⟨has_rfl rfl, has_rfl rfl, has_rfl rfl, has_rfl rfl, ?_, ?_, has_rfl rfl, trivial⟩ ?_
  · dsimp only
    rw [hR0, List.map_append]
    exact has_gr rfl
  · dsimp only
    rw [hR0]
    exact has_rfl rfl
  rintro ⟨i, R⟩ ⟨hi, hinv⟩ ih
  dsimp only at hi hinv ih ⊢
  obtain ⟨hRl, hRw⟩ := hw40 R hinv
  have hRv : (R.map RowD.v).length = R.length := by simp
  (repeat (first | refine c_seq ?_ | refine c_reg ?_ | refine c_rnil ?_ | refine c_op (by first | exact t_move | exact t_lss | exact t_len | fail) ?_ | fail))
  refine c_if (fun hlt => ?_) fun hge => ?_
  · have hiR : i < R.length := by omega
    have hri : R[i]? = some R[i] := List.getElem?_eq_getElem hiR
    obtain ⟨L, hL⟩ : ∃ L, L = R[i].ws.length := ⟨_, rfl⟩
    have hL40 : L ≤ 40 := by rw [hL]; exact hRw _ (List.getElem_mem hiR)
    (repeat (first | refine c_seq ?_ | refine c_reg ?_ | refine c_rnil ?_ | refine c_block ?_ | refine c_skip ?_ | refine c_op (by first | exact t_assign | fail) ?_ | fail))
    refine c_loop (fun x : Nat × List RowD => [(1, .pu (pI n)), (2, .pu (pI which)), (7, .pu (pPtr eText t)), (8, .pu (pPtr eTxR ⟨rows.map RowD.v, nrows.map RowD.v⟩)), (9, .pu (pSl eRaw (x.2.map RowD.v))), (200, .gh (rowsG 20 x.2)), (10, .pu (pI i)), (11, .pu (pI x.1))])
      (fun x => x.1 ≤ L ∧ InvR sg vs x.2 ∧ ∃ r, x.2[i]? = some r ∧ r.ws.length = L) (fun x => L - x.1) (0, R) ⟨Nat.zero_le _, hinv, _, hri, hL.symm⟩ (by repeat (first | exact trivial | refine ⟨has_rfl rfl, ?_⟩ | fail)) ?_
    clear hinv hRl hRw hRv hlt hiR hri hL
    rintro ⟨k, R⟩ ⟨hk, hinv, r, hri, hrl2⟩ ih2
    dsimp only at hk hinv hri hrl2 ih2 ⊢
    obtain ⟨hiR, rfl⟩ := List.getElem?_eq_some_iff.1 hri
    have hmem := List.getElem_mem hiR
    (repeat (first | refine c_seq ?_ | refine c_reg ?_ | refine c_rnil ?_ | refine c_op (by first | exact (t_idxRaw) | exact (t_ldRaw) | exact (t_lenRow) | exact t_move | exact t_lss | fail) ?_ | fail))
    refine c_if (fun hlt2 => ?_) fun hge2 => ?_
    · have hkl : k < R[i].ws.length := by omega
      have hok := hinv.ok _ hmem _ (List.getElem_mem hkl)
      have hs := widM_even hok.s
      by_cases hc : aro which 3 = ((i : Int) + (k : Int)).tmod 3
      · (repeat (first | refine c_seq ?_ | refine c_reg ?_ | refine c_rnil ?_ | refine c_block ?_ | refine c_inBlock ?_ | refine c_skip ?_ | refine c_false ?_ | refine c_op (by first | exact (t_idxRaw) | exact (t_ldRaw) | exact (t_idxRow) | exact (t_faB) | exact (t_ldRowS 200 hmem hkl) | exact t_call (h := width25_f) | exact t_call (h := (fill_f rep hs)) | exact t_call (h := (around_f (by omega))) | exact t_move | exact t_assign | exact t_add | exact t_not | exact t_neqF | exact t_ext0 | exact t_ext1 | exact t_rem | fail) ?_ | fail))
        exact (ih2 (k + 1, R) ⟨by dsimp only; omega, hinv, _, hri, hrl2⟩ (by dsimp only; omega)).sub (by repeat (first | exact trivial | refine ⟨has_rfl rfl, ?_⟩ | fail))
      · have hw1 := fill_wid hs
        obtain ⟨r1, hr1⟩ : ∃ r1, r1 = R[i].put k { R[i].ws[k] with s := fillS (widM R[i].ws[k].s) } := ⟨_, rfl⟩
        have hk1 : k < r1.ws.length := by rw [hr1]; simpa [RowD.put] using hkl
        have hl1 : r1.ws.length = L := by rw [hr1, ← hrl2]; simp [RowD.put]
        have hw1' : r1.ws[k] = { R[i].ws[k] with s := fillS (widM R[i].ws[k].s) } := by simp [hr1, RowD.put]
        have hb1 : r1.b = R[i].b ∧ r1.off = R[i].off := by rw [hr1]; exact ⟨rfl, rfl⟩
        have h1 : InvR sg vs (R.set i r1) := by
          rw [hr1]
          exact hinv.put hri hkl (by unfold sig; dsimp only; rw [hw1]) ⟨by dsimp only; rw [hw1]; exact hok.s, hok.key, hok.table⟩
        have hok1 : OKWd r1.ws[k] := by rw [hw1']; exact ⟨by dsimp only; rw [hw1]; exact hok.s, hok.key, hok.table⟩
        have hri1 : (R.set i r1)[i]? = some r1 := by rw [List.getElem?_set_self hiR]
        obtain ⟨r2, hr2⟩ : ∃ r2, r2 = r1.put k { r1.ws[k] with key := ⟨#[]⟩ } := ⟨_, rfl⟩
        have hk2 : k < r2.ws.length := by rw [hr2]; simpa [RowD.put] using hk1
        have hl2 : r2.ws.length = L := by rw [hr2, ← hl1]; simp [RowD.put]
        have hw2' : r2.ws[k] = { r1.ws[k] with key := ⟨#[]⟩ } := by simp [hr2, RowD.put]
        have hb2 : r2.b = R[i].b ∧ r2.off = R[i].off := by rw [hr2]; exact hb1
        have h2 : InvR sg vs ((R.set i r1).set i r2) := by
          rw [hr2]
          exact h1.put hri1 hk1 rfl ⟨hok1.s, .inl rfl, hok1.table⟩
        have hok2 : OKWd r2.ws[k] := by rw [hw2']; exact ⟨hok1.s, .inl rfl, hok1.table⟩
        have hri2 : ((R.set i r1).set i r2)[i]? = some r2 := by rw [List.getElem?_set_self (by rw [List.length_set]; exact hiR)]
        obtain ⟨r3, hr3⟩ : ∃ r3, r3 = r2.put k { r2.ws[k] with table := 0 } := ⟨_, rfl⟩
        have hl3 : r3.ws.length = L := by rw [hr3, ← hl2]; simp [RowD.put]
        have h3 : InvR sg vs (((R.set i r1).set i r2).set i r3) := by
          rw [hr3]
          exact h2.put hri2 hk2 rfl ⟨hok2.s, hok2.key, .inl rfl⟩
        have hri3 : (((R.set i r1).set i r2).set i r3)[i]? = some r3 := by rw [List.getElem?_set_self (by rw [List.length_set, List.length_set]; exact hiR)]
        (repeat (first | refine c_seq ?_ | refine c_reg ?_ | refine c_rnil ?_ | refine c_block ?_ | refine c_skip ?_ | refine c_true ?_ | refine c_false ?_ | refine c_op (by first | exact (t_idxRaw) | exact (t_ldRaw) | exact (t_idxRow) | exact (t_faB) | exact (t_ldRowS 200 hmem hkl) | exact t_call (h := width25_f) | exact t_call (h := (fill_f rep hs)) | exact t_call (h := (around_f (by omega))) | exact t_move | exact t_assign | exact t_add | exact t_not | exact t_neqT | exact t_ext0 | exact t_ext1 | exact t_rem | fail) ?_ | fail))
        refine c_st 200 (t_stRowS (i := i) (n := k) 200 hri hkl) ?_
        rw [← hr1]
        (repeat (first | refine c_seq ?_ | refine c_reg ?_ | refine c_rnil ?_ | refine c_op (by first | exact (t_idxRaw) | exact (t_ldRaw) | exact (t_idxRow) | exact (t_faB) | exact t_move | fail) ?_ | fail))
        refine c_st 200 (t_stRowK (i := i) (n := k) 200 hri1 hk1 (hx := by rw [hb1.1, hb1.2]; rfl)) ?_
        rw [← hr2]
        (repeat (first | refine c_reg ?_ | refine c_rnil ?_ | refine c_op (by first | exact (t_idxRaw) | exact (t_ldRaw) | exact (t_idxRow) | exact (t_faB) | exact t_move | fail) ?_ | fail))
        refine c_st 200 (t_stRowT (i := i) (n := k) 200 hri2 hk2 (hx := by rw [hb2.1, hb2.2]; rfl)) ?_
        rw [← hr3]
        (repeat (first | refine c_reg ?_ | refine c_rnil ?_ | refine c_inBlock ?_ | refine c_op (by first | exact t_move | exact t_assign | exact t_add | fail) ?_ | fail))
        refine (ih2 (k + 1, ((R.set i r1).set i r2).set i r3) ⟨by dsimp only; omega, h3, _, hri3, hl3⟩ (by dsimp only; omega)).sub ?_
        have hve : R.map RowD.v = (((R.set i r1).set i r2).set i r3).map RowD.v := hinv.v.trans h3.v.symm
        dsimp only
        rw [← hve]
        (repeat' (first | exact trivial | refine ⟨?_, ?_⟩ | fail)) <;> (try first | exact has_rfl rfl | exact has_nil rfl | exact has_nilS rfl | exact has_gr rfl | exact has_nilGo rfl | exact has_int rfl (by first | omega | fail) | fail)
    · have hkL : k = L := by omega
      obtain ⟨hRl, hRw⟩ := hw40 R hinv
      (repeat (first | refine c_reg ?_ | refine c_rnil ?_ | refine c_inBlock ?_ | refine c_exit ?_ | refine c_op (by first | exact t_move | exact t_assign | exact t_add | fail) ?_ | fail))
      exact (ih (i + 1, R) ⟨by dsimp only; omega, hinv⟩ (by dsimp only; omega)).sub (by repeat (first | exact trivial | refine ⟨has_rfl rfl, ?_⟩ | fail))
  · have hvv : R.map RowD.v = rows.map RowD.v ++ nrows.map RowD.v := by rw [hinv.v, hvs, hR0, List.map_append]
    have hss : (R.map fun r => r.ws.map sig) = (rows.map fun r => r.ws.map sig) ++ (nrows.map fun r => r.ws.map sig) := by rw [hinv.sg, hsg, hR0, List.map_append]
    obtain ⟨va, vb⟩ := map_split _ hvv
    obtain ⟨sa, sb⟩ := map_split _ hss
    have hsp : R = R.take rows.length ++ R.drop rows.length := (List.take_append_drop _ _).symm
    generalize R.take rows.length = A at va sa hsp
    generalize R.drop rows.length = B at vb sb hsp
    subst hsp
    refine c_frzTx 8 200 ?_ va vb
    have hsim : Sim t ⟨A.map RowD.ws, B.map RowD.ws⟩ := by
      refine ⟨?_, ?_, fun p hp w hw => ?_⟩
      · rw [← hr, List.map_map, List.map_map]
        exact sa.symm
      · rw [← hnr, List.map_map, List.map_map]
        exact sb.symm
      · dsimp only at hp
        rw [← List.map_append] at hp
        obtain ⟨r, hr', rfl⟩ := List.mem_map.1 hp
        exact hinv.ok r hr' w hw
    generalize (⟨A.map RowD.ws, B.map RowD.ws⟩ : Tx) = t' at hsim ⊢
    have hv' := hsim.vt hv
    have f4 := linesT_f (t := t') (m := m) hv'.h48
    rw [hv'.err hmb, if_pos rfl, if_pos rfl, hsim.body, hsim.notes] at f4
    generalize bodyT t m = bb at f3 f4
    generalize notesT t m = nb at f3 f4
    (repeat (first | refine c_seq ?_ | refine c_exit ?_ | fail))
    refine c_draw0 mixed (by kernel_rfl) ?_
    (repeat (first | refine d_op (by first | exact t_call (h := wf0) | exact t_call (h := f3) | exact t_move | exact t_assign | exact t_ext30 | exact t_ext31 | exact t_ext32 | exact t_load | fail) ?_ | fail))
    refine d_nil (q_nil ?_ (by kernel_rfl))
    (repeat (first | refine c_seq ?_ | fail))
    refine c_draw0 mixed (by kernel_rfl) ?_
    (repeat (first | refine d_op (by first | exact t_call (h := wf0) | exact t_call (h := f4) | exact t_move | exact t_assign | exact t_ext30 | exact t_ext31 | exact t_ext32 | exact t_load | fail) ?_ | fail))
    refine d_nil (q_nil ?_ (by kernel_rfl))
    (repeat (first | refine c_seq ?_ | refine c_reg ?_ | refine c_rnil ?_ | refine c_block ?_ | refine c_skip ?_ | refine c_false ?_ | refine c_yes ?_ | refine c_op (by first | exact t_call (h := sameL_f) | exact t_move | exact t_assign | exact t_pickF | exact t_not | exact t_neqF | exact t_len | fail) ?_ | fail))
    refine c_have 15 (fun h => i_len24 h) fun hBl => ?_
    refine c_loop (fun k : Nat => [(15, .pu (pSl (eSl eLine) nb)), (18, .pu (pSl (eSl eLine) nb)), (20, .pu (pI k))])
      (fun k => k ≤ nb.length) (fun k => nb.length - k) 0 (by omega) (by repeat (first | exact trivial | refine ⟨has_rfl rfl, ?_⟩ | fail)) fun k hk ihk => ?_
    (repeat (first | refine c_seq ?_ | refine c_reg ?_ | refine c_rnil ?_ | refine c_op (by first | exact t_move | exact t_lss | exact t_len | fail) ?_ | fail))
    refine c_if (fun hlt3 => ?_) fun hge3 => ?_
    · have hlt3' : k < nb.length := by omega
      (repeat (first | refine c_seq ?_ | refine c_block ?_ | refine c_skip ?_ | fail))
      refine c_draw0 mixed (by kernel_rfl) ?_
      (repeat (first | refine d_op (by first | exact t_call (h := sameL_f) | exact t_move | exact t_not | exact t_idxN | exact t_load | fail) ?_ | fail))
      refine d_nil (q_nil ?_ (by kernel_rfl))
      (repeat (first | refine c_reg ?_ | refine c_rnil ?_ | refine c_inBlock ?_ | refine c_skip ?_ | refine c_false ?_ | refine c_op (by first | exact t_move | exact t_assign | exact t_add | fail) ?_ | fail))
      exact (ihk (k + 1) (by omega) (by omega)).sub (by repeat (first | exact trivial | refine ⟨has_rfl rfl, ?_⟩ | fail))
    · (repeat (first | refine c_seq ?_ | refine c_reg ?_ | refine c_rnil ?_ | refine c_exit ?_ | refine c_op (by first | exact t_call (h := lives_f) | exact t_assign | fail) ?_ | fail))
      refine c_ret1 Tryd.func7 rfl ?_
      exact fun h => h
end Go.Proofs.YtedlipgopicijaaDoor
end

section
namespace Go.Proofs.YtedlipgopicijaaDoor
open Go Go.Shelf Go.RowKit
def repRen : Go.Shelf.Ren := ⟨fun | 105 => 51 | 212 => 74 | 99 => 75 | 165 => 76 | 166 => 77 | 170 => 78 | 169 => 79 | 263 => 89 | 264 => 90 | 206 => 91 | 240 => 92 | 241 => 93 | 276 => 96 | 277 => 97 | n => n, fun | 9 => 9 | 3 => 3 | 4 => 4 | 20 => 20 | 0 => 0 | 46 => 86 | 109 => 103 | 5 => 5 | 72 => 109 | 76 => 113 | 51 => 84 | 146 => 121 | 53 => 123 | 148 => 124 | 70 => 106 | 37 => 107 | 75 => 112 | 127 => 126 | 164 => 129 | 80 => 115 | n => n, fun | n => n⟩
theorem repLays : Go.Proofs.Lays.n105 Tryd.prog repRen := {
  mixed := by kernel_rfl
  f99 := Tryd.func75.trans (congrArg some (by kernel_rfl))
  f105 := Tryd.func51.trans (congrArg some (by kernel_rfl))
  f165 := Tryd.func76.trans (congrArg some (by kernel_rfl))
  f166 := Tryd.func77.trans (congrArg some (by kernel_rfl))
  f169 := Tryd.func79.trans (congrArg some (by kernel_rfl))
  f170 := Tryd.func78.trans (congrArg some (by kernel_rfl))
  f206 := Tryd.func91.trans (congrArg some (by kernel_rfl))
  f212 := Tryd.func74.trans (congrArg some (by kernel_rfl))
  f240 := Tryd.func92.trans (congrArg some (by kernel_rfl))
  f241 := Tryd.func93.trans (congrArg some (by kernel_rfl))
  f263 := Tryd.func89.trans (congrArg some (by kernel_rfl))
  f264 := Tryd.func90.trans (congrArg some (by kernel_rfl))
  f276 := Tryd.func96.trans (congrArg some (by kernel_rfl))
  f277 := Tryd.func97.trans (congrArg some (by kernel_rfl))
  t0 := Tryd.underlying0
  a0 := Tryd.isAgg0
  z0 := Tryd.sizeOf0
  v0 := Tryd.zeroValue0
  t3 := Tryd.underlying3
  a3 := Tryd.isAgg3
  z3 := Tryd.sizeOf3
  v3 := Tryd.zeroValue3
  t4 := Tryd.underlying4
  a4 := Tryd.isAgg4
  z4 := Tryd.sizeOf4
  v4 := Tryd.zeroValue4
  t5 := Tryd.underlying5
  a5 := Tryd.isAgg5
  z5 := Tryd.sizeOf5
  v5 := Tryd.zeroValue5
  t9 := Tryd.underlying9
  a9 := Tryd.isAgg9
  z9 := Tryd.sizeOf9
  v9 := Tryd.zeroValue9
  t20 := Tryd.underlying20
  a20 := Tryd.isAgg20
  z20 := Tryd.sizeOf20
  v20 := Tryd.zeroValue20
  t37 := Tryd.underlying107
  a37 := Tryd.isAgg107
  z37 := Tryd.sizeOf107
  v37 := Tryd.zeroValue107
  t46 := Tryd.underlying86
  a46 := Tryd.isAgg86
  z46 := Tryd.sizeOf86
  v46 := Tryd.zeroValue86
  t51 := Tryd.underlying84
  a51 := Tryd.isAgg84
  z51 := Tryd.sizeOf84
  v51 := Tryd.zeroValue84
  t53 := Tryd.underlying123
  a53 := Tryd.isAgg123
  z53 := Tryd.sizeOf123
  v53 := Tryd.zeroValue123
  t70 := Tryd.underlying106
  a70 := Tryd.isAgg106
  z70 := Tryd.sizeOf106
  v70 := Tryd.zeroValue106
  t72 := Tryd.underlying109
  a72 := Tryd.isAgg109
  z72 := Tryd.sizeOf109
  v72 := Tryd.zeroValue109
  t75 := Tryd.underlying112
  a75 := Tryd.isAgg112
  z75 := Tryd.sizeOf112
  v75 := Tryd.zeroValue112
  t76 := Tryd.underlying113
  a76 := Tryd.isAgg113
  z76 := Tryd.sizeOf113
  v76 := Tryd.zeroValue113
  t109 := Tryd.underlying103
  a109 := Tryd.isAgg103
  z109 := Tryd.sizeOf103
  v109 := Tryd.zeroValue103
  t127 := Tryd.underlying126
  a127 := Tryd.isAgg126
  z127 := Tryd.sizeOf126
  v127 := Tryd.zeroValue126
  t146 := Tryd.underlying121
  a146 := Tryd.isAgg121
  z146 := Tryd.sizeOf121
  v146 := Tryd.zeroValue121
  t148 := Tryd.underlying124
  a148 := Tryd.isAgg124
  z148 := Tryd.sizeOf124
  v148 := Tryd.zeroValue124
  t164 := Tryd.underlying129
  a164 := Tryd.isAgg129
  z164 := Tryd.sizeOf129
  v164 := Tryd.zeroValue129 }
theorem repExtra : Builder.Extra Tryd.prog repRen := {
  sizeBuilder := by kernel_rfl
  liesBuilder := by kernel_rfl
  t5 := repLays.t5
  a5 := repLays.a5
  z5 := repLays.z5
  v5 := repLays.v5
  infoByte := by kernel_rfl
  cellsByte := by kernel_rfl
  sizeByte := by kernel_rfl
  neB5 := by decide }
theorem repG : RepG := fun k hk => ⟨ent51, fun M w vs _ _ hf => by
  match vs, hf with
  | [u, v], ⟨⟨h1, h2⟩, ⟨h3, h4⟩, _⟩ =>
    subst h1 h3
    have h := Any.strings_Repeat repLays repExtra ⟨#[109]⟩ k w (by omega) (by show 1 * k ≤ _; omega)
    have hf : repRen.f 105 = 51 := rfl
    rw [hf] at h
    refine Calls.mono h ?_
    rintro e w' ⟨rfl, hb⟩
    refine ⟨_, rfl, ⟨?_, by rw [mS_size]; omega⟩, hb⟩
    have e := Lib.repeatL_replicate 109 1 k
    rw [Nat.mul_one] at e
    unfold mS
    rw [← e]
    rfl⟩
theorem paraShapesW_f {l : List Int} {n which : Int} : Fn Tryd.prog 7 [pSl eI l, pI n, pI which] (pB true) := paraShapes_f repG
end Go.Proofs.YtedlipgopicijaaDoor
end

section
namespace Go.Proofs.YtedlipgopicijaaDoor
set_option maxRecDepth 100000
open Go Go.RowKit Go.Deep
def Rd {α : Type} (P : Program) (E : Enc α) (t : TypeId) : Prop := ∀ {H : Type} {enc : TypeId × Value → H} {W : World} {base : Nat} {spare : Nat → Bool} {held : Bool} {fuel : Nat} {cs : List Value} {x : DataW H × List MemPlace},
  DataW.trod enc P W base spare held fuel t cs = some x → (∀ n ∈ x.1.weights P t, n ≤ reachBytes) → ∃ d, E.R (fun _ => none) W cs d
section
variable {P : Program}
theorem rd_int {t : TypeId} (ht : P.underlying t = some (.int .i64)) : Rd P eI t := fun h _ => by
  obtain ⟨n, rfl, _, hw⟩ := DataW.trod_int ht h
  refine ⟨n, rfl, fun _ => ?_, fun e => by cases e⟩
  simp [Lit.wf] at hw
  exact hw
theorem weights_all {H : Type} {e : TypeId} : ∀ {l : List (DataW H)} {d : DataW H}, d ∈ l → ∀ n ∈ d.weights P e, n ∈ DataW.weightsAll P e l
  | x :: r, d, hd, n, hn => by
    simp only [DataW.weightsAll, List.mem_append]
    rcases List.mem_cons.1 hd with rfl | hd
    · exact .inl hn
    · exact .inr (weights_all hd n hn)
theorem rd_slice {α : Type} [Inhabited α] {E : Enc α} {t e : TypeId} (ht : P.underlying t = some (.slice e)) (hC : P.cellsOf e = E.sz) (hB : P.bytesOf e = E.by_) (hE : Rd P E e) : Rd P (eSl E) t := fun {H enc W base spare held fuel cs x} h hw => by
  rcases open_slice ht h with ⟨rfl, _⟩ | ⟨a, len, cap, m, n, D, Pl, rfl, hb, hl, hm, hmm, hx, hi⟩
  · exact ⟨[], _, rfl, SlOf.nil _ _ _⟩
  · subst hx
    simp only [DataW.weights, ht] at hw
    have hle : len ≤ m := by rw [hmm]; split <;> omega
    have hbytes : len * E.by_ ≤ 140737488351232 := by
      have := hw _ (by exact List.mem_cons_self)
      simp only [List.length_map, List.length_range, hB] at this
      have h2 : len * E.by_ ≤ (len + (m - len)) * E.by_ := Nat.mul_le_mul_right _ (by omega)
      exact Nat.le_trans h2 this
    have hel : ∀ i, i < len → ∃ d, Elem E (fun _ => none) W (a.add (i * E.sz)) d := fun i hi' => by
      obtain ⟨cs', hc, htr⟩ := hi i (by omega)
      obtain ⟨d, hd⟩ := hE htr (fun k hk => hw k (List.mem_cons_of_mem _ (List.mem_append_left _ (weights_all (List.mem_map.2 ⟨i, List.mem_range.2 hi', rfl⟩) k hk))))
      rw [hC] at hc
      obtain ⟨_, hcl, hat⟩ := World.cells?_some hc
      refine ⟨d, cs', hd, fun j c hj => ?_⟩
      have hjl : j < cs'.length := (List.getElem?_eq_some_iff.1 hj).1
      have := hat j (by omega)
      exact ⟨this.trans hj, fun p hp => by cases hp⟩
    obtain ⟨f, hf⟩ := choose_lt hel
    refine ⟨(List.range len).map f, _, rfl, a, cap, by simp, by simpa using hl, hm, (fun h => by cases h), by simpa using hbytes, fun ad he i hi' => ?_⟩
    cases he
    have hi2 : i < len := by simpa using hi'
    have := hf i hi2
    simpa using this
end
instance : Inhabited Line := ⟨⟨0, 0, [], []⟩⟩
theorem rdI : Rd Tryd.prog eI 3 := rd_int Tryd.underlying3
theorem rdSI : Rd Tryd.prog (eSl eI) 22 := rd_slice Tryd.underlying22 (by kernel_rfl) (by kernel_rfl) rdI
end Go.Proofs.YtedlipgopicijaaDoor
end

section
namespace Go.Proofs.YtedlipgopicijaaDoor
open Go Go.ChangeShapes Go.WideShapes Go.ChangeAt Go.RowKit
theorem paraShapesOwn : ownKnob Tryd.prog.godebug = none := by kernel_rfl
theorem paraShapesLaid : laidOutB Tryd.prog = true := by kernel_rfl
theorem paraShapesWf {n : Int} (h : (Lit.int .i64 n).wf = true) : I64 n := by
  simp [Lit.wf] at h
  exact h
abbrev paraShapesTab : List (String × DataW Unit) := [("rollbook/glyph.widths", Lib.tabData .u8 tbl)]
theorem paraShapesTabs {W : World} (h : laidMetH Tryd.prog paraShapesTab W) : Lays (fun _ => none) W := by
  rw [MakeChecks.laidMetH_plain _ _ _ (by kernel_rfl)] at h
  have hg : Tryd.prog.globalNamed "rollbook/glyph.widths" = some 0 := by kernel_rfl
  have hT := Lib.tabIs_of_head hg (t := 96) (e := 5) (n := 94) (by kernel_rfl) (by kernel_rfl) (by kernel_rfl) (by kernel_rfl) (by kernel_rfl) h
  refine ⟨fun i hi => ⟨?_, fun _ e => by cases e⟩⟩
  have := hT.cell hg i hi
  rw [List.getD_eq_getElem?_getD, List.getElem?_eq_getElem hi] at this
  exact this
theorem paraShapesDoor (os : Os) (args : Array Value) : laidMetH Tryd.prog paraShapesTab ((World.doorLaid Tryd.prog 400 os).forCall (fun _ _ => 0) ⟨#[], args, []⟩).memory :=
  laidMetH_of_parts3 (fuel := 8) (laidMet_of_run' 8 (by kernel_rfl) (by kernel_rfl)) (by kernel_rfl) (by kernel_rfl)
set_option maxRecDepth 100000 in
theorem paraShapesLifted (os : Os) (started : os.Started) (H : Type) (enc : TypeId × Value → H) :
    ReturnsInHanded {} Tryd.checked os 7 .any (fun w args => (Rows.paraShapesSpec.pre enc Tryd.prog Tryd.f7 [] false w args ∧ laidMetH Tryd.prog paraShapesTab w) ∧ sizedMet enc Tryd.prog Tryd.f7 (OpenSpec.ofChange Rows.paraShapesSpec) false w args)
      (Rows.paraShapesSpec.post enc Tryd.prog Tryd.f7 false true false false) := by
  refine returnsInHanded_of_change_and (C := Tryd.checked) (X := fun w _ => laidMetH Tryd.prog paraShapesTab w) (fun _ _ _ hh h => h.of_heap hh) paraShapesOwn started (by kernel_rfl) Tryd.func7
    (ChangeSpec.witness_shaped (enc := enc) (C := Tryd.checked) (os := os) (X := fun w _ => laidMetH Tryd.prog paraShapesTab w) false (World.doorLaid Tryd.prog 400 os) #[.slice none 0 0, .int .i64 0, .int .i64 0] 8 rfl (World.shaped_of_RefB (by kernel_rfl) (by kernel_rfl)) (by kernel_rfl) (by kernel_rfl) (by kernel_rfl) (paraShapesDoor os _)) ?_
  intro W base args ds gs before hval0 hW hcnd hsz hL _
  have hval : ∀ (j : Nat) t v, Tryd.f7.params[j]? = some t → args[j]? = some v → Value.okWide Tryd.prog W .any base t v := hval0
  have hW' := hW
  obtain ⟨p, q, hA0, hV, rfl, hfz, hnd⟩ := hW
  have hA : DataW.TrodAll enc Tryd.prog W 0 (fun _ => true) true Tryd.f7.params.toList args.toList ds p := hA0
  rw [Tryd.params7] at hA hval
  obtain ⟨v0, vs0, d0, ds0, p0, q0, hargs, rfl, rfl, h0, r0⟩ := trodAll_cons hA
  obtain ⟨v1, vs1, d1, ds1, p1, q1, rfl, rfl, rfl, h1, r1⟩ := trodAll_cons r0
  obtain ⟨v2, vs2, d2, ds2, p2, q2, rfl, rfl, rfl, h2, r2⟩ := trodAll_cons r1
  obtain ⟨rfl, rfl, rfl⟩ := trodAll_nil r2
  obtain rfl : args = #[v0, v1, v2] := by cases args; simp_all
  obtain ⟨rfl, rfl⟩ := trodVars_none hV
  obtain ⟨a0, len0, cap0, rfl⟩ := okWide_slice Tryd.underlying22 (hval 0 22 v0 rfl rfl)
  have k0 := h0
  have lt0 : ∀ x ∈ p0, x.block < W.heap.size := by obtain ⟨m, hm⟩ := k0; exact DataW.trod_lt m _ _ _ hm
  obtain ⟨z0, w0⟩ : ∃ l, SlOf eI (fun _ => none) W (.slice a0 len0 cap0) l := by
    obtain ⟨fuel, hf⟩ := h0
    obtain ⟨l, u, hu, hs⟩ := rdSI hf (fun n hn => by
      have := List.all_eq_true.1 hsz n (DataW.weights_mem_each (j := 0) (t := 22) (d := d0) rfl rfl n hn)
      simpa using this)
    simp [Value.cells] at hu
    subst hu
    exact ⟨l, hs⟩
  obtain ⟨a1, rfl, rfl, rfl, w1⟩ := open_int Tryd.underlying3 (hval 1 3 v1 rfl rfl) h1
  obtain ⟨a2, rfl, rfl, rfl, w2⟩ := open_int Tryd.underlying3 (hval 2 3 v2 rfl rfl) h2
  clear hA0 hval0
  refine Calls.mono (paraShapesW_f.run (fun _ => none) W [.slice a0 len0 cap0, .int .i64 a1, .int .i64 a2] (fun _ _ => rfl) (paraShapesTabs hL) ⟨w0, ⟨rfl, fun _ => paraShapesWf w1, fun e => by cases e⟩, ⟨rfl, fun _ => paraShapesWf w2, fun e => by cases e⟩, trivial⟩) fun e W' ⟨v, he, hv, bel⟩ => ?_
  have hv : v = .bool true := hv
  subst he hv
  exact ⟨_, rfl, _, _, _, [], _, [], hW', trodAll_mk1 (shut_bool Tryd.underlying4 _), (trodAll_cons_mk (Below.trod paraShapesLaid (by kernel_rfl) (of_decide_eq_true (by kernel_rfl)) k0 bel lt0) (trodAll_cons_mk (shut_int Tryd.underlying3 w1) (trodAll_cons_mk (shut_int Tryd.underlying3 w2) trodAll_mk0))), rfl, bel.frame _, fun h => by cases h⟩
theorem paraShapes_proved : Rows.ParaShapesSaid :=
  OpenClaim.holds_of_wide 7 Tryd.f7 rfl rfl rfl rfl rfl rfl rfl ⟨rfl, rfl, rfl, rfl, rfl⟩ rfl rfl rfl rfl rfl (by kernel_rfl) Tryd.func7 (by kernel_rfl)
    (of_decide_eq_true (by kernel_rfl)) (by unfold Func.isWrapper; first | (rw [if_pos (by decide +kernel)]; kernel_rfl) | (rw [if_neg (by decide +kernel)]; exact ⟨rfl, rfl⟩))
    (fun os started H enc _ => paraShapesLifted os started H enc)
theorem paraShapes_card : Rows.ParaShapesCardSaid :=
  Claim7.holds_tied_plain_at .later [] [.data] true (true, "3e1017bbe245d220a28fd9e6071ba9ea44c5eed799b6b6bde6659dd7b8f8309f") false
    paraShapes_proved (fun _ h => by cases h) (by kernel_rfl) (fun _ h => by cases h) paraShapes_row_tie rfl ⟨rfl, rfl⟩ (by kernel_rfl) rfl
    (fun f fn hf hfn => by
      obtain rfl : f = 7 := Option.some.inj ((show Tryd.prog.funcNamed "rollbook/rollbooklaw26.ParaShapes" = some 7 by kernel_rfl).symm.trans hf) |>.symm
      obtain rfl : fn = Tryd.f7 := (Option.some.inj (Tryd.func7.symm.trans hfn)).symm
      exact ⟨by kernel_rfl, fun j t ht => by
        rw [Tryd.params7] at ht
        have hm : t ∈ [22, 3, 3] := by simpa using Array.mem_of_getElem? ht
        have hall : ([22, 3, 3].all fun u => !Tryd.prog.wantsStandIn u) = true := by kernel_rfl
        exact (show Tryd.prog.wantsStandIn t = false by simpa using List.all_eq_true.1 hall t hm)⟩)
    (by kernel_rfl)
end Go.Proofs.YtedlipgopicijaaDoor
end
