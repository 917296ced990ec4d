/-
  Part 2 of 4 of the proof of paraShapes_card: lemmas on which it rests, each for all inputs. Merged from the texts Kit9 Base Kit10 D1 D2 S1 M26 M26b T26 D3 D4 Kit11 D5 M25 D14 D15 D16 D6 D17 D18 D19.
-/
import Derived.Calls
import Derived.Orders
import Derived.Below
import Derived.KernelRfl
import Derived.WalkKit
import Derived.Laws.AppendOwn
import Derived.Laws.Rows
import Derived.Deep.Slices
import Derived.Laws.OwnMore
import Derived.Laws.MakeOwn
import Derived.Laws.CopyRow
import Derived.Still
import Derived.Lib.SliceRun
import Derived.Test.YtedlipgopicijaaDoorChecked
import Derived.Lib.AppendZeros
import Derived.Test.YtedlipgopicijaaDoorVSx1
section
namespace Go.Proofs.YtedlipgopicijaaDoor
open Go Go.RowKit
section
variable (P : Program) (f : FuncId) (N : Nat) (M0 : Mut) (w0 : World)
structure Rt (todo : List Item) (G : TF) (R : Value → World → Prop) : Prop where
  out : ∀ {M w fr}, Rn M0 w0 M w → Fit w0.heap.size M w fr G → Run P f N todo fr w R
structure RLt (ops : Array Oper) (k : List Item) (R : Value → World → Prop) (l : List Oper) (G : TF) : Prop where
  out : ∀ {M w fr}, Rn M0 w0 M w → Fit w0.heap.size M w fr G → RL P f N ops k R l fr w
structure RTt (ops : Array Oper) (k : List Item) (R : Value → World → Prop) (n : Nat) (listed : Array Bool) (G : TF) : Prop where
  out : ∀ {M w fr}, Rn M0 w0 M w → Fit w0.heap.size M w fr G → RT P f N ops k R n listed fr w
end
def RetR (M0 : Mut) (w0 : World) (Q : Pub) : Value → World → Prop := fun v w => Q.p M0 w v ∧ Below w0.heap.size w0 w
def Has (G : TF) (t : Nat) (T : Kd) : Prop := ∀ {B M w fr}, Fit B M w fr G → T.E B M w fr t
def SubT : TF → TF → Prop
  | [], _ => True
  | (t, T) :: r, G => Has G t T ∧ SubT r G
theorem SubT.fit {B : Nat} {M : Mut} {w : World} {fr : Fr} {G : TF} (hf : Fit B M w fr G) : ∀ {F : TF}, SubT F G → Fit B M w fr F
  | [], _ => ⟨hf.lay, fun t T h _ => by cases h⟩
  | (k, U) :: r, h => ⟨hf.lay, fun t T hT _ => by
    by_cases e : k = t
    · subst e
      rw [tlook_eq] at hT
      cases hT
      exact h.1 hf
    · rw [tlook_ne _ _ e] at hT
      exact (SubT.fit hf h.2).out t T hT (.inr trivial)⟩
section
variable {G : TF} {t : Nat}
theorem has_rfl {T : Kd} (h : tlook G t = some T) : Has G t T := fun hf => hf.out t T h (.inr trivial)
theorem has_nil {α : Type} {E : Enc α} {tag : Nat} {e : TypeId} (h : tlook G t = some (.pu (pv (.slice none 0 0)))) : Has G t (.gr E [] tag e) := fun hf => by
  obtain ⟨v, h1, rfl⟩ := hf.out t _ h (.inr trivial)
  exact ⟨_, h1, SlOf.nil _ _ _, Grow.nil⟩
theorem has_gr {α : Type} {E : Enc α} {l : List α} {tag : Nat} {e : TypeId} (h : tlook G t = some (.gr E l tag e)) : Has G t (.pu (pSl E l)) := fun hf => by
  obtain ⟨v, h1, h2, _⟩ := hf.out t _ h (.inr trivial)
  exact ⟨v, h1, h2⟩
theorem has_int {k : IntKind} {m n : Int} (h : tlook G t = some (.pu (pK k m))) (e : m = n) : Has G t (.pu (pK k n)) := e ▸ has_rfl h
theorem has_sl {α : Type} {E : Enc α} {l l' : List α} (h : tlook G t = some (.pu (pSl E l))) (e : l = l') : Has G t (.pu (pSl E l')) := e ▸ has_rfl h
end
section
variable {P : Program} {f : FuncId} {N : Nat} {M0 : Mut} {w0 : World} {R : Value → World → Prop} {G : TF} {k : List Item}
theorem Rt.sub {todo : List Item} {F : TF} (h : Rt P f N M0 w0 todo F R) (hs : SubT F G) : Rt P f N M0 w0 todo G R := ⟨fun hr hf => h.out hr (hs.fit hf)⟩
theorem c_seq {x y : Code} (h : Rt P f N M0 w0 (.code x :: .code y :: k) G R) : Rt P f N M0 w0 (.code (.seq x y) :: k) G R := ⟨fun hr hf => run_seq (h.out hr hf)⟩
theorem c_skip (h : Rt P f N M0 w0 k G R) : Rt P f N M0 w0 (.code .skip :: k) G R := ⟨fun hr hf => run_skip (h.out hr hf)⟩
theorem c_label {l : Nat} (h : Rt P f N M0 w0 k G R) : Rt P f N M0 w0 (.code (.label l) :: k) G R := ⟨fun hr hf => run_label (h.out hr hf)⟩
theorem c_block {id : Nat} {c : Code} (h : Rt P f N M0 w0 (.code c :: .inBlock id :: k) G R) : Rt P f N M0 w0 (.code (.block id c) :: k) G R := ⟨fun hr hf => run_block (h.out hr hf)⟩
theorem c_inBlock {id : Nat} (h : Rt P f N M0 w0 k G R) : Rt P f N M0 w0 (.inBlock id :: k) G R := ⟨fun hr hf => run_inBlock (h.out hr hf)⟩
theorem c_exit {id : Nat} {k' : List Item} (h : Rt P f N M0 w0 k' G R) (hk : exitTo id k = some k' := by rfl) : Rt P f N M0 w0 (.code (.exit id) :: k) G R := ⟨fun hr hf => run_exit hk (h.out hr hf)⟩
theorem c_true {c : Operand} {x y : Code} (h : Rt P f N M0 w0 (.code x :: k) G R) (hc : topP G c = some (pB true) := by rfl) : Rt P f N M0 w0 (.code (.cond c x y) :: k) G R := ⟨fun hr hf => by
  obtain ⟨_, h1, rfl⟩ := hf.op0 hc (fun _ _ => trivial)
  exact run_true h1 (h.out hr hf)⟩
theorem c_false {c : Operand} {x y : Code} (h : Rt P f N M0 w0 (.code y :: k) G R) (hc : topP G c = some (pB false) := by rfl) : Rt P f N M0 w0 (.code (.cond c x y) :: k) G R := ⟨fun hr hf => by
  obtain ⟨_, h1, rfl⟩ := hf.op0 hc (fun _ _ => trivial)
  exact run_false h1 (h.out hr hf)⟩
theorem c_if {c : Operand} {x y : Code} {p : Prop} [Decidable p] (ht : p → Rt P f N M0 w0 (.code x :: k) G R) (hf : ¬ p → Rt P f N M0 w0 (.code y :: k) G R) (hc : topP G c = some (pB (decide p)) := by rfl) :
    Rt P f N M0 w0 (.code (.cond c x y) :: k) G R := by
  by_cases h : p
  · exact c_true (ht h) (by rw [hc, decide_eq_true h])
  · exact c_false (hf h) (by rw [hc, decide_eq_false h])
theorem c_ifb {c : Operand} {x y : Code} {b : Bool} (ht : b = true → Rt P f N M0 w0 (.code x :: k) G R) (hf : b = false → Rt P f N M0 w0 (.code y :: k) G R) (hc : topP G c = some (pB b) := by rfl) :
    Rt P f N M0 w0 (.code (.cond c x y) :: k) G R := by
  cases b
  · exact c_false (hf rfl) hc
  · exact c_true (ht rfl) hc
theorem c_loop {α : Type} {c : Code} (F : α → TF) (J : α → Prop) (μ : α → Nat) (x0 : α) (h0 : J x0) (hs : SubT (F x0) G)
    (round : ∀ x, J x → (∀ y, J y → μ y < μ x → Rt P f N M0 w0 (.inLoop c :: k) (F y) R) → Rt P f N M0 w0 (.code c :: .inLoop c :: k) (F x) R) :
    Rt P f N M0 w0 (.code (.loop c) :: k) G R := by
  have key : ∀ n x, μ x = n → J x → Rt P f N M0 w0 (.code c :: .inLoop c :: k) (F x) R := by
    intro n
    induction n using Nat.strongRecOn with
    | _ n ih =>
      intro x hn hJ
      refine round x hJ fun y hJ' hlt => ⟨fun hr hf => ?_⟩
      exact ⟨fun a ha => (((ih (μ y) (hn ▸ hlt) y rfl hJ').out hr hf).out a ha).step fun _ _ => .one step_inLoop⟩
  exact ⟨fun hr hf => ⟨fun a ha => (((key _ x0 rfl h0).out hr (hs.fit hf)).out a ha).step fun _ _ => .one step_loop⟩⟩
theorem c_reg {id : Nat} {l : List Oper} (h : RLt P f N M0 w0 l.toArray k R l G) : Rt P f N M0 w0 (.code (.region id l.toArray false) :: k) G R := ⟨fun hr hf => run_region_l (h.out hr hf)⟩
theorem c_ret1 {fn : Func} {t : Nat} {p Q : Pub} (hf : P.funcs[f]? = some fn) (hr : fn.results = #[.tmp t]) (h : ∀ {M w v}, p.p M w v → Q.p M w v) (hp : topP G (.tmp t) = some p := by rfl) :
    Rt P f N M0 w0 (.code .ret :: k) G (RetR M0 w0 Q) := ⟨fun {M w fr} hrn hfit => by
  obtain ⟨v, h1, h2⟩ := hfit.op0 hp (fun _ _ => trivial)
  exact run_ret1 hf hr h1 ⟨Q.mono hrn.fin (h h2), hrn.bel⟩⟩
theorem c_ret2 {fn : Func} {t u : Nat} {p q Q : Pub} (hf : P.funcs[f]? = some fn) (hr : fn.results = #[.tmp t, .tmp u]) (h : ∀ {M w v x}, p.p M w v → q.p M w x → Q.p M w (.tuple #[v, x])) (hp : topP G (.tmp t) = some p := by rfl) (hq : topP G (.tmp u) = some q := by rfl) :
    Rt P f N M0 w0 (.code .ret :: k) G (RetR M0 w0 Q) := ⟨fun {M w fr} hrn hfit => by
  obtain ⟨v, h1, h2⟩ := hfit.op0 hp (fun _ _ => trivial)
  obtain ⟨x, h3, h4⟩ := hfit.op0 hq (fun _ _ => trivial)
  exact run_ret2 hf hr h1 h3 ⟨Q.mono hrn.fin (h h2 h4), hrn.bel⟩⟩
theorem c_ret3 {fn : Func} {t u s : Nat} {p q r Q : Pub} (hf : P.funcs[f]? = some fn) (hr : fn.results = #[.tmp t, .tmp u, .tmp s]) (h : ∀ {M w v x y}, p.p M w v → q.p M w x → r.p M w y → Q.p M w (.tuple #[v, x, y]))
    (hp : topP G (.tmp t) = some p := by rfl) (hq : topP G (.tmp u) = some q := by rfl) (hs : topP G (.tmp s) = some r := by rfl) :
    Rt P f N M0 w0 (.code .ret :: k) G (RetR M0 w0 Q) := ⟨fun {M w fr} hrn hfit => by
  obtain ⟨v, h1, h2⟩ := hfit.op0 hp (fun _ _ => trivial)
  obtain ⟨x, h3, h4⟩ := hfit.op0 hq (fun _ _ => trivial)
  obtain ⟨y, h5, h6⟩ := hfit.op0 hs (fun _ _ => trivial)
  exact run_ret3 hf hr h1 h3 h5 ⟨Q.mono hrn.fin (h h2 h4 h6), hrn.bel⟩⟩
theorem c_retC {α : Type} {E : Enc α} {fn : Func} {t u : Nat} {b tag : Nat} {x : α} {e : TypeId} {Q : Pub} (hf : P.funcs[f]? = some fn) (hr : fn.results = #[.cell t u]) (key : Nat) (h : ∀ {M w v}, E.V M w v x → Q.p M w v) (ha : E.agg = true := by rfl)
    (hp : topP G (.tmp t) = some (pRo b E 0) := by rfl) (hg : tlook G key = some (.rw b tag E [x] e) := by rfl) (hE : TEc P u E := by infer_instance) : Rt P f N M0 w0 (.code .ret :: k) G (RetR M0 w0 Q) := ⟨fun {M w fr} hrn hfit => by
  obtain ⟨v, h1, h2⟩ := hfit.op0 hp (fun _ _ => trivial)
  obtain ⟨hB, css, hc, hbx⟩ := hfit.out key _ hg (.inr trivial)
  obtain ⟨z, hz, hT⟩ := hE.out
  rw [ha] at hT
  have hlen := hc.len
  obtain ⟨cs, r, e1, hR, hr2⟩ := hc
  cases hr2
  rw [List.append_nil] at e1
  subst e1
  have h3 : v = .pointer (some ⟨b, 0, none⟩) := by rw [show v = _ from h2]; simp
  refine run_retc hf hr (h1.trans (by rw [h3])) hT hbx (by simpa using hlen) ⟨Q.mono hrn.fin (h ⟨_, hR, by rw [ha]; rfl⟩), hrn.bel⟩⟩
theorem c_have {todo : List Item} (t : Nat) {q : Pub} {φ : Prop} (hq : ∀ {M w v}, q.p M w v → φ) (h : φ → Rt P f N M0 w0 todo G R) (ht : topP G (.tmp t) = some q := by rfl) : Rt P f N M0 w0 todo G R := ⟨fun hr hf => by
  obtain ⟨v, _, h2⟩ := hf.op0 ht (fun _ _ => trivial)
  exact (h (hq h2)).out hr hf⟩
theorem c_to {todo : List Item} (t : Nat) (T : Kd) (hh : Has G t T) (h : Rt P f N M0 w0 todo ((t, T) :: G) R) : Rt P f N M0 w0 todo G R := ⟨fun hr hf => h.out hr (hf.hide (hh hf))⟩
section
variable {ops : Array Oper} {d : Nat} {op : Op} {ty : TypeId} {pos : String} {aft : Array Edge} {rest : List Oper} {T : Kd}
theorem c_rnil (h : Rt P f N M0 w0 k G R) : RLt P f N M0 w0 ops k R [] G := ⟨fun hr hf => rl_nil (h.out hr hf)⟩
theorem c_op (h : TOp P N ⟨some d, op, ty, pos, aft, none⟩ G [] T) (hk : RLt P f N M0 w0 ops k R rest ((d, T) :: G)) (hd : d < N := by decide) : RLt P f N M0 w0 ops k R (⟨some d, op, ty, pos, aft, none⟩ :: rest) G := ⟨fun hr hf =>
  rl_step hd ((h.fit hr hf).mono fun _ _ ⟨_, hs, hv⟩ => hk.out (hr.stw hs) ((hf.up hs).cons hv))⟩
theorem c_opW {W : List Nat} (h : TOp P N ⟨some d, op, ty, pos, aft, none⟩ G W T) (hk : RLt P f N M0 w0 ops k R rest ((d, T) :: dropW W G)) (hd : d < N := by decide) : RLt P f N M0 w0 ops k R (⟨some d, op, ty, pos, aft, none⟩ :: rest) G := ⟨fun hr hf =>
  rl_step hd ((h.fit hr hf).mono fun _ _ ⟨_, hs, hv⟩ => hk.out (hr.stw hs) ((hf.after hs).cons hv))⟩
theorem Kd.E_of_V {B : Nat} {M : Mut} {w : World} {v : Value} {fr : Fr} {t : Nat} {T : Kd} (hg : T.ghost = true) (h : T.V B M w v) : T.E B M w fr t := by
  cases T with
  | rw b tag E l e => exact h
  | bx b tag cs e => exact h
  | gv u E l tag e => exact h
  | gh g => exact h
  | _ => simp [Kd.ghost] at hg
theorem c_st (key : Nat) {W : List Nat} (h : TOp P N ⟨none, op, ty, pos, aft, none⟩ G W T) (hk : RLt P f N M0 w0 ops k R rest ((key, T) :: dropW W G)) (hg : T.ghost = true := by rfl) : RLt P f N M0 w0 ops k R (⟨none, op, ty, pos, aft, none⟩ :: rest) G := ⟨fun hr hf =>
  rl_step0 ((h.fit hr hf).mono fun _ _ ⟨_, hs, hv⟩ => hk.out (hr.stw hs) ((hf.after hs).hide (Kd.E_of_V hg hv)))⟩
theorem c_yes {j dj : Nat} {want : Bool} (h : RLt P f N M0 w0 ops k R (⟨some d, op, ty, pos, aft, none⟩ :: rest) G) (hj : (ops[j]?).bind (·.dst) = some dj := by rfl) (hg : topP G (.tmp dj) = some (pB want) := by rfl) :
    RLt P f N M0 w0 ops k R (⟨some d, op, ty, pos, aft, some (j, want)⟩ :: rest) G := ⟨fun hr hf => by
  obtain ⟨v, h1, rfl⟩ := hf.op0 hg (fun _ _ => trivial)
  exact rl_yes hj h1 (h.out hr hf)⟩
theorem c_no {j dj : Nat} {want b : Bool} (h : RLt P f N M0 w0 ops k R rest ((d, .pu (pv undef)) :: G)) (hj : (ops[j]?).bind (·.dst) = some dj := by rfl) (hg : topP G (.tmp dj) = some (pB b) := by rfl) (hb : (b == want) = false := by rfl) (hd : d < N := by decide) :
    RLt P f N M0 w0 ops k R (⟨some d, op, ty, pos, aft, some (j, want)⟩ :: rest) G := ⟨fun hr hf => by
  obtain ⟨v, h1, rfl⟩ := hf.op0 hg (fun _ _ => trivial)
  exact rl_no hj h1 hb hd (h.out hr (hf.cons (T := .pu (pv undef)) rfl))⟩
theorem c_noU {j dj : Nat} {want : Bool} (h : RLt P f N M0 w0 ops k R rest ((d, .pu (pv undef)) :: G)) (hj : (ops[j]?).bind (·.dst) = some dj := by rfl) (hg : topP G (.tmp dj) = some (pv undef) := by rfl) (hd : d < N := by decide) :
    RLt P f N M0 w0 ops k R (⟨some d, op, ty, pos, aft, some (j, want)⟩ :: rest) G := ⟨fun hr hf => by
  obtain ⟨v, h1, rfl⟩ := hf.op0 hg (fun _ _ => trivial)
  exact rl_noU hj h1 hd (h.out hr (hf.cons (T := .pu (pv undef)) rfl))⟩
theorem r_ex {l : List Oper} {α : Type} (t : Nat) {q : α → Pub} (h : ∀ a, RLt P f N M0 w0 ops k R l ((t, .pu (q a)) :: G)) (ht : topP G (.tmp t) = some (pEx q) := by rfl) : RLt P f N M0 w0 ops k R l G := ⟨fun hr hf => by
  obtain ⟨v, h1, a, h2⟩ := hf.op0 ht (fun _ _ => trivial)
  exact (h a).out hr (hf.hide ⟨v, h1, h2⟩)⟩
theorem r_and {l : List Oper} (t : Nat) {φ : Prop} {q : Pub} (h : φ → RLt P f N M0 w0 ops k R l ((t, .pu q) :: G)) (ht : topP G (.tmp t) = some (pAnd φ q) := by rfl) : RLt P f N M0 w0 ops k R l G := ⟨fun hr hf => by
  obtain ⟨v, h1, h2, h3⟩ := hf.op0 ht (fun _ _ => trivial)
  exact (h h2).out hr (hf.hide ⟨v, h1, h3⟩)⟩
theorem r_to {l : List Oper} (t : Nat) (T : Kd) (hh : Has G t T) (h : RLt P f N M0 w0 ops k R l ((t, T) :: G)) : RLt P f N M0 w0 ops k R l G := ⟨fun hr hf => h.out hr (hf.hide (hh hf))⟩
theorem c_make {α : Type} {E : Enc α} {x y : Operand} {t e : TypeId} {k' k2 : IntKind} {n : Int} {x0 : α} {by' : Nat} (tag key : Nat)
    (hk : ∀ b, RLt P f N M0 w0 ops k R rest ((d, .pu (pSr b n.toNat)) :: (key, .rw b tag E (List.replicate n.toNat x0) e) :: G))
    (hx : topP G x = some (pK k' n) := by rfl) (hy : topP G y = some (pK k2 n) := by rfl) (ht : USl P t e := by infer_instance) (hE : TEc P e E := by infer_instance)
    (hz : ZEc P e E x0 := by infer_instance) (hb : BYc E by' := by infer_instance) (h0 : 0 ≤ n := by omega) (hl : by' * n.toNat ≤ 140737488351232 := by omega) (h63 : n ≤ 9223372036854775807 := by omega) (hd : d < N := by decide) :
    RLt P f N M0 w0 ops k R (⟨some d, .makeSlice t x y, ty, pos, aft, none⟩ :: rest) G := ⟨fun {M w fr} hr hf => by
  obtain ⟨_, k0, rfl, _⟩ := hf.op0 hx (fun _ _ => trivial)
  obtain ⟨_, k1, rfl, _⟩ := hf.op0 hy (fun _ _ => trivial)
  obtain ⟨z, z1, z2⟩ := hz.out
  have hlz : z.length = E.sz := E.len (z2 M w)
  refine rl_step hd (op_make tag ht.out z1 k0 k1 hr h0 (by rw [hb.out]; exact hl) h63 fun b w' M' hB hbx hup => ?_)
  refine (hk b).out (hr.up hup) (Fit.cons (Fit.hide (hf.up (StW.up hr.size hup)) ?_) rfl)
  refine ⟨hB, _, ?_, hbx⟩
  have := CSS.replicate (E := E) (z2 M' w') n.toNat
  rwa [← madeCells_flatten, hlz] at this⟩
theorem c_alloc {α : Type} {E : Enc α} {e : TypeId} {x0 : α} (tag key : Nat) (hk : ∀ b, RLt P f N M0 w0 ops k R rest ((d, .pu (pRo b E 0)) :: (key, .rw b tag E [x0] e) :: G)) (hz : ZEc P e E x0 := by infer_instance) (hd : d < N := by decide) :
    RLt P f N M0 w0 ops k R (⟨some d, .alloc e, ty, pos, aft, none⟩ :: rest) G := ⟨fun {M w fr} hr hf => by
  obtain ⟨z, z1, z2⟩ := hz.out
  refine rl_step hd (op_alloc tag hr z1 fun b w' M' hB hbx hup => ?_)
  refine (hk b).out (hr.up hup) (Fit.cons (Fit.hide (hf.up (StW.up hr.size hup)) ?_) ?_)
  · exact ⟨hB, z, ⟨z, [], (List.append_nil z).symm, z2 M' w', rfl⟩, hbx⟩
  · simp [Kd.V, pRo, pv]⟩
end
theorem c_row {todo : List Item} {α : Type} {E : Enc α} {l : List α} {tag : Nat} {e : TypeId} (t key : Nat) (h : ∀ b, Rt P f N M0 w0 todo ((t, .pu (pSr b l.length)) :: (key, .rw b tag E l e) :: G) R) (ht : tlook G t = some (.ow E l tag e) := by rfl) : Rt P f N M0 w0 todo G R := ⟨fun hr hf => by
  obtain ⟨b, h1, h2⟩ := hf.out t _ ht (.inr trivial)
  exact (h b).out hr (Fit.hide (Fit.hide (T := .rw b tag E l e) hf h2) ⟨_, h1, rfl⟩)⟩
theorem r_name {ops : Array Oper} {l : List Oper} {α : Type} {E : Enc α} {ls : List α} {tag : Nat} {e : TypeId} (t key : Nat) (h : ∀ v, RLt P f N M0 w0 ops k R l ((t, .pu (pv v)) :: (key, .gv v E ls tag e) :: G)) (ht : tlook G t = some (.gr E ls tag e) := by rfl) : RLt P f N M0 w0 ops k R l G := ⟨fun hr hf => by
  obtain ⟨v, h1, h2⟩ := hf.out t _ ht (.inr trivial)
  exact (h v).out hr (Fit.hide (Fit.hide (T := .gv v E ls tag e) hf h2) ⟨v, h1, rfl⟩)⟩
theorem q_name {ops : Array Oper} {n : Nat} {listed : Array Bool} {α : Type} {E : Enc α} {ls : List α} {tag : Nat} {e : TypeId} (t key : Nat) (h : ∀ v, RTt P f N M0 w0 ops k R n listed ((t, .pu (pv v)) :: (key, .gv v E ls tag e) :: G)) (ht : tlook G t = some (.gr E ls tag e) := by rfl) : RTt P f N M0 w0 ops k R n listed G := ⟨fun hr hf => by
  obtain ⟨v, h1, h2⟩ := hf.out t _ ht (.inr trivial)
  exact (h v).out hr (Fit.hide (Fit.hide (T := .gv v E ls tag e) hf h2) ⟨v, h1, rfl⟩)⟩
theorem c_nilV {todo : List Item} {α : Type} (E : Enc α) (tag : Nat) (e : TypeId) (key : Nat) (h : Rt P f N M0 w0 todo ((key, .gv (.slice none 0 0) E [] tag e) :: G) R) : Rt P f N M0 w0 todo G R := ⟨fun hr hf => h.out hr (Fit.hide (T := .gv (.slice none 0 0) E [] tag e) hf ⟨SlOf.nil _ _ _, Grow.nil⟩)⟩
theorem c_allocB {ops : Array Oper} {d : Nat} {ty : TypeId} {pos : String} {aft : Array Edge} {rest : List Oper} {e : TypeId} {sz by' : Nat} {agg : Bool} {z : List Value} (tag key : Nat) (hT : TD P e sz by' agg z)
    (hk : ∀ b, RLt P f N M0 w0 ops k R rest ((d, .pu (pCe b 0)) :: (key, .bx b tag z e) :: G)) (hd : d < N := by decide) :
    RLt P f N M0 w0 ops k R (⟨some d, .alloc e, ty, pos, aft, none⟩ :: rest) G := ⟨fun {M w fr} hr hf => by
  refine rl_step hd (op_alloc tag hr hT fun b w' M' hB hbx hup => ?_)
  exact (hk b).out (hr.up hup) (Fit.cons (T := .pu (pCe b 0)) (Fit.hide (T := .bx b tag z e) (hf.up (StW.up hr.size hup)) ⟨hB, hbx⟩) rfl)⟩
theorem c_frz {todo : List Item} {α : Type} {E : Enc α} {b tag n : Nat} {l : List α} {e : TypeId} {by' : Nat} (t key : Nat) (h : Rt P f N M0 w0 todo ((t, .pu (pSl E l)) :: (key, .no) :: dropW [tag] G) R)
    (ht : topP G (.tmp t) = some (pSr b n) := by rfl) (hg : tlook G key = some (.rw b tag E l e) := by rfl) (hb : BYc E by' := by infer_instance) (hn : n = l.length := by first | rfl | simp) (hl : n * by' ≤ 140737488351232 := by omega) : Rt P f N M0 w0 todo G R := ⟨fun {M w fr} hr hf => by
  obtain ⟨v, h1, rfl⟩ := hf.op0 ht (fun _ _ => trivial)
  obtain ⟨hB, css, h2, h3⟩ := hf.out key _ hg (.inr trivial)
  obtain ⟨k1, k2⟩ := h3.freeze h2 (by rw [hb.out, ← hn]; exact hl) hB
  have hs := StW.st k2
  refine h.out (hr.stw hs) (Fit.hide (Fit.hide (T := .no) (hf.after hs) trivial) ⟨_, h1, ?_⟩)
  rw [← hn] at k1
  exact k1⟩
end
section
variable {P : Program} {N : Nat} {G : TF} {d : Option Tmp} {ty : TypeId} {pos : String} {aft : Array Edge} {g : Option (Nat × Bool)}
theorem t_st {α : Type} {E : Enc α} {x y : Operand} {b tag i : Nat} {l : List α} {t e : TypeId} {p : Pub} {x' : α} (key : Nat) (hx : topP G x = some (pRo b E i) := by rfl) (hg : tlook G key = some (.rw b tag E l e) := by rfl) (hy : topP G y = some p := by rfl)
    (hp : PEc p E x' := by infer_instance) (hE : TEc P t E := by infer_instance) (hi : i < l.length := by first | omega | (simp; done) | (simp; omega)) :
    TOp P N ⟨d, .store t x y, ty, pos, aft, g⟩ G [tag] (.rw b tag E (l.set i x') e) := ⟨[x, y], by simp [Op.operands], fun {M0 w0 M w fr} hr hf => by
  obtain ⟨_, k0, rfl⟩ := hf.op hx (by simp)
  obtain ⟨v, k1, k2⟩ := hf.op hy (by simp)
  obtain ⟨hB, css, hc, hbx⟩ := hf.out key _ hg (.inl rfl)
  obtain ⟨z, hz, hT⟩ := hE.out
  obtain ⟨cs, c1, c2⟩ := hp.out k2
  have hcl := E.len c1
  have hle : i * E.sz + cs.length ≤ css.length := by
    rw [hcl, hc.len, ← Nat.succ_mul]
    exact Nat.mul_le_mul_right _ hi
  refine op_store hT k0 k1 (by rw [c2]; exact mkv_cells c1) (E.one c1) hcl hr hB hbx hle fun w' hb' hst => ⟨M, StW.st hst, hB, _, ?_, hb'⟩
  have := hc.update i hi 0 cs x' (fun cs0 h0 => by
    have hl0 := E.len h0
    unfold splice
    rw [List.take_zero, List.nil_append, List.drop_of_length_le (by omega), List.append_nil]
    exact c1) (by omega)
  rw [Nat.add_zero] at this
  exact this.mono hst.x⟩
theorem t_stF {α β : Type} {E : Enc α} {E' : Enc β} {x y : Operand} {b tag i off : Nat} {l : List α} {s t e : TypeId} {fd : Nat} {pr : α → β} {st : α → β → α} {p : Pub} {y' : β} (key : Nat) (hF : FDc P s fd E E' pr st) (hoff : FD P s fd off)
    (hx : topP G x = some (pRf b E i off) := by rfl) (hg : tlook G key = some (.rw b tag E l e) := by rfl) (hy : topP G y = some p := by rfl)
    (hp : PEc p E' y' := by infer_instance) (hE : TEc P t E' := by infer_instance) (hi : i < l.length := by first | omega | (simp; done) | (simp; omega)) :
    TOp P N ⟨d, .store t x y, ty, pos, aft, g⟩ G [tag] (.rw b tag E (l.set i (st l[i] y')) e) := ⟨[x, y], by simp [Op.operands], fun {M0 w0 M w fr} hr hf => by
  obtain ⟨_, k0, rfl⟩ := hf.op hx (by simp)
  obtain ⟨v, k1, k2⟩ := hf.op hy (by simp)
  obtain ⟨hB, css, hc, hbx⟩ := hf.out key _ hg (.inl rfl)
  obtain ⟨z, hz, hT⟩ := hE.out
  obtain ⟨cs, c1, c2⟩ := hp.out k2
  have hcl := E'.len c1
  obtain ⟨off', q1, q2, q3⟩ := hF.out
  have hoe : off' = off := by
    obtain ⟨fs, fd1, i1, a1, a2, a3, _⟩ := q1
    obtain ⟨fs2, fd2, i2, b1, b2, b3, _⟩ := hoff
    rw [a1] at b1
    cases b1
    rw [a2] at b2
    cases b2
    omega
  subst hoe
  obtain ⟨cs1, d1, _⟩ := hc.get i hi
  have hfit := (q3 d1 c1).1
  have hle : i * E.sz + off' + cs.length ≤ css.length := by
    have : i * E.sz + E.sz ≤ css.length := by
      rw [hc.len, ← Nat.succ_mul]
      exact Nat.mul_le_mul_right _ hi
    omega
  refine op_store hT k0 k1 (by rw [c2]; exact mkv_cells c1) (E'.one c1) hcl hr hB hbx hle fun w' hb' hst => ⟨M, StW.st hst, hB, _, ?_, hb'⟩
  exact (hc.update i hi off' cs (st l[i] y') (fun cs0 h0 => (q3 h0 c1).2) hfit).mono hst.x⟩
end
def raws (B : Nat) (L : TF) : List (Nat × Ty) := L.map fun p => (p.1, fun M w v => p.2.V B M w v)
theorem TyAll.of_fit {B : Nat} {M : Mut} {w : World} {φ : Fr → Prop} : ∀ (L : TF) {fr : Fr} {G : TF}, Fit B M w fr G → (∀ fr', Fit B M w fr' (L.reverse ++ G) → φ fr') → TyAll (raws B L) M w φ fr
  | [], fr, G, hf, h => h fr (by simpa using hf)
  | (d, T) :: r, fr, G, hf, h => fun v hv => by
    refine TyAll.of_fit r (hf.cons hv) fun fr' hf' => h fr' ?_
    simpa using hf'
theorem tlook_append {L G : TF} {t : Nat} : tlook (L ++ G) t = match tlook L t with | some T => some T | none => tlook G t := by
  induction L with
  | nil => rfl
  | cons p r ih =>
    obtain ⟨k, U⟩ := p
    by_cases e : k = t
    · subst e
      simp [tlook_eq]
    · rw [List.cons_append, tlook_ne _ _ e, tlook_ne _ _ e, ih]
theorem tlook_filter {S : Nat → Bool} {t : Nat} (hS : S t = true) : ∀ (L : TF), tlook (L.filter fun p => S p.1) t = tlook L t
  | [] => rfl
  | (k, U) :: r => by
    by_cases e : k = t
    · subst e
      rw [List.filter_cons_of_pos (by simpa using hS), tlook_eq, tlook_eq]
    · rw [tlook_ne _ _ e]
      rw [List.filter_cons]
      split
      · rw [tlook_ne _ _ e]; exact tlook_filter hS r
      · exact tlook_filter hS r
theorem seen_raws {B : Nat} {ops : Array Oper} {o : Oper} {L : TF} : seenBy ops o (raws B L) = raws B (L.filter fun p => (o.looksAt ops).any (Nat.beq p.1)) := by
  unfold seenBy raws
  rw [List.filter_map]
  rfl
section
variable (P : Program) (f : FuncId) (N : Nat) (M0 : Mut) (w0 : World)
structure DRt (pl : Plan) (ops : Array Oper) (k : List Item) (R : Value → World → Prop) (Wa : List Nat) (n : Nat) (listed : Array Bool) (G : TF) (l : List Oper) (L : TF) : Prop where
  out : ∀ {M1 w1 fr}, Rn M0 w0 M1 w1 → Fit w0.heap.size M1 w1 fr G →
    DR (RelW w0.heap.size) pl P N ops fr M1 w1 (fun Z => ∀ M' w', StW w0.heap.size Wa M1 w1 M' w' → TyAll Z M' w' (fun fr' => RT P f N ops k R n listed fr' w') fr) l (raws w0.heap.size L)
end
section
variable {P : Program} {f : FuncId} {N : Nat} {M0 : Mut} {w0 : World} {R : Value → World → Prop} {G L : TF} {k : List Item}
theorem c_draw {id : Nat} {l : List Oper} (pl : Plan) (m n : Nat) (F : List Nat) (Wa : List Nat) (hm : P.follows .mixedOrders = true) (hok : drawOk N l.toArray m F pl = true) (hn : l.length = m + n) (hW : ran pl m (Array.replicate m true) = Wa)
    (h : DRt P f N M0 w0 pl l.toArray k R Wa n (Array.replicate m true ++ Array.replicate n false) G (l.take m) []) : Rt P f N M0 w0 (.code (.region id l.toArray true) :: k) G R := ⟨fun {M w fr} hr hf => by
  refine region_dg (M := M) (relW_ok w0.heap.size) pl m n F hm hn hok fun w1 hup => ?_
  have hr1 := hr.up hup
  have := h.out hr1 (hf.up (StW.up hr.size hup))
  subst hW
  exact this⟩
theorem c_draw0 {id : Nat} {l : List Oper} (hm : P.follows .mixedOrders = true) (hok : drawOk N l.toArray l.length [] {} = true) (h : DRt P f N M0 w0 {} l.toArray k R [] 0 (Array.replicate l.length true) G l []) :
    Rt P f N M0 w0 (.code (.region id l.toArray true) :: k) G R := by
  refine c_draw {} l.length 0 [] [] hm hok rfl ?_ ?_
  · apply List.eq_nil_iff_forall_not_mem.2
    intro t ht
    obtain ⟨j, _, _, hj⟩ := mem_ran.1 ht
    simp [Plan.t] at hj
  · rw [List.take_length]
    simpa using h
section
variable {pl : Plan} {ops : Array Oper} {Wa : List Nat} {n m : Nat} {listed : Array Bool} {l : List Oper} {d : Nat} {op : Op} {ty : TypeId} {pos : String} {aft : Array Edge} {T : Kd}
theorem dg_cons' {S : Rel} {Z : List (Nat × Ty)} {fr : Fr} {M1 : Mut} {w1 : World} {fin : List (Nat × Ty) → Prop} {gd : Option (Nat × Bool)} (T : Ty) (hd : d < N) (hT : Stab S (pl.o Z.length) T)
    (hob : Ob P N S (pl.b Z.length) (pl.t Z.length) ops fr M1 w1 ⟨some d, op, ty, pos, aft, gd⟩ Z.reverse T)
    (h : DR S pl P N ops fr M1 w1 fin l ((d, T) :: Z)) : DR S pl P N ops fr M1 w1 fin (⟨some d, op, ty, pos, aft, gd⟩ :: l) Z := by
  have := dg_cons (n := l.length) (l := l) T hd hT hob (by rw [List.take_length]; exact h)
  rwa [List.take_succ_cons, List.take_length] at this
theorem mem_looks {ops : Array Oper} {o : Oper} {t : Nat} (h : Operand.tmp t ∈ o.op.operands) : (o.looksAt ops).any (Nat.beq t) = true :=
  List.any_eq_true.2 ⟨t, List.mem_append_left _ (List.mem_filterMap.2 ⟨.tmp t, by simpa using h, rfl⟩), nbeq_self t⟩
theorem any_rev {o : Oper} {B : Nat} {M1 : Mut} {w1 : World} {fr : Fr} {W : List Nat} {M : Mut} {w : World} {φ : Fr → Prop} (hf : Fit B M1 w1 fr G) (hs : StW B W M1 w1 M w)
    (h : ∀ fr', Fit B M w fr' ((L.reverse.filter fun p => (o.looksAt ops).any (Nat.beq p.1)).reverse ++ dropW W G) → φ fr') : TyAll (seenBy ops o (raws B L).reverse) M w φ fr := by
  have e : (raws B L).reverse = raws B L.reverse := by unfold raws; rw [List.map_reverse]
  rw [e, seen_raws]
  exact TyAll.of_fit _ (hf.after hs) h
theorem looks_of {o : Oper} {t : Nat} {G' : TF} (h : (o.looksAt ops).any (Nat.beq t) = true) : tlook ((L.reverse.filter fun p => (o.looksAt ops).any (Nat.beq p.1)).reverse ++ G') t = tlook (L ++ G') t := by
  rw [tlook_append, tlook_append, ← List.filter_reverse, List.reverse_reverse, tlook_filter (S := fun t => (o.looksAt ops).any (Nat.beq t)) h]
theorem TOp.seen {o : Oper} {W : List Nat} {G' : TF} (h : TOp P N o (L ++ G') W T) (hG : ∀ t T, tlook L t = some T → T.ghost = false) {B : Nat} {M : Mut} {w : World} {fr : Fr} (hf : Fit B M w fr ((L.reverse.filter fun p => (o.looksAt ops).any (Nat.beq p.1)).reverse ++ G'))
    {M0 : Mut} {w0 : World} (hr : Rn M0 w0 M w) (hB : B = w0.heap.size) : OP P N o fr w (fun v w' => ∃ M', StW w0.heap.size W M w M' w' ∧ T.V w0.heap.size M' w' v) := by
  subst hB
  obtain ⟨xs, h1, h2⟩ := h.out
  refine h2 hr ⟨hf.lay, fun t T hT hc => ?_⟩
  rcases hc with hc | hc
  · 
    by_cases hs : (o.looksAt ops).any (Nat.beq t) = true
    · exact hf.out t T (by rw [looks_of hs]; exact hT) (.inr trivial)
    · have hL : tlook L t = none := by
        rw [tlook_append] at hT
        split at hT
        · rename_i U hU
          cases hT
          rw [hG t T hU] at hc
          cases hc
        · assumption
      refine hf.out t T ?_ (.inr trivial)
      rw [tlook_append, hL] at hT
      rw [tlook_append]
      have : tlook (L.reverse.filter fun p => (o.looksAt ops).any (Nat.beq p.1)).reverse t = none := by
        rw [← List.filter_reverse, List.reverse_reverse]
        clear hf h h1 h2 hG
        induction L with
        | nil => rfl
        | cons p r ih =>
          obtain ⟨q, U⟩ := p
          have hne : q ≠ t := fun e => by subst e; rw [tlook_eq] at hL; cases hL
          rw [tlook_ne _ _ hne] at hL
          rw [List.filter_cons]
          split
          · rw [tlook_ne _ _ hne]; exact ih hL
          · exact ih hL
      rw [this]
      exact hT
  · exact hf.out t T (by rw [looks_of (mem_looks (h1 _ hc))]; exact hT) (.inr trivial)
def plain : TF → Bool
  | [] => true
  | (_, T) :: r => !T.ghost && plain r
theorem plain_spec : ∀ {L : TF}, plain L = true → ∀ t T, tlook L t = some T → T.ghost = false
  | [], _, t, T, h => by cases h
  | (q, U) :: r, hp, t, T, h => by
    simp only [plain, Bool.and_eq_true, Bool.not_eq_true'] at hp
    by_cases e : q = t
    · subst e
      rw [tlook_eq] at h
      cases h
      exact hp.1
    · rw [tlook_ne _ _ e] at h
      exact plain_spec hp.2 t T h
theorem d_op (h : TOp P N ⟨some d, op, ty, pos, aft, none⟩ (L ++ dropW (pl.b L.length) G) (pl.t L.length) T) (hk : DRt P f N M0 w0 pl ops k R Wa n listed G l ((d, T) :: L))
    (hp : plain L = true := by rfl) (hT : T.keep (pl.o L.length) = true := by rfl) (hd : d < N := by decide) : DRt P f N M0 w0 pl ops k R Wa n listed G (⟨some d, op, ty, pos, aft, none⟩ :: l) L := ⟨fun {M1 w1 fr} hr hf => by
  have hl : (raws w0.heap.size L).length = L.length := by simp [raws]
  refine dg_cons' (fun M w v => T.V w0.heap.size M w v) hd (fun M w M' w' v hs hv => Kd.V_keep hv hs (by rw [hl]; exact hT)) (fun M w hs => ?_) (hk.out hr hf)
  rw [hl] at hs
  refine any_rev hf hs fun fr' hf' => opg ?_
  rw [hl]
  exact h.seen (plain_spec hp) hf' (hr.stw hs) rfl⟩
theorem d_yes {j dj : Nat} {want : Bool} (h : TOp P N ⟨some d, op, ty, pos, aft, some (j, want)⟩ (L ++ dropW (pl.b L.length) G) (pl.t L.length) T) (hk : DRt P f N M0 w0 pl ops k R Wa n listed G l ((d, T) :: L))
    (hj : (ops[j]?).bind (·.dst) = some dj := by rfl) (hg : topP (L ++ dropW (pl.b L.length) G) (.tmp dj) = some (pB want) := by rfl)
    (hp : plain L = true := by rfl) (hT : T.keep (pl.o L.length) = true := by rfl) (hd : d < N := by decide) : DRt P f N M0 w0 pl ops k R Wa n listed G (⟨some d, op, ty, pos, aft, some (j, want)⟩ :: l) L := ⟨fun {M1 w1 fr} hr hf => by
  have hl : (raws w0.heap.size L).length = L.length := by simp [raws]
  refine dg_cons' (fun M w v => T.V w0.heap.size M w v) hd (fun M w M' w' v hs hv => Kd.V_keep hv hs (by rw [hl]; exact hT)) (fun M w hs => ?_) (hk.out hr hf)
  rw [hl] at hs
  refine any_rev hf hs fun fr' hf' => ?_
  have hm : (Oper.looksAt ops ⟨some d, op, ty, pos, aft, some (j, want)⟩).any (Nat.beq dj) = true := by
    refine List.any_eq_true.2 ⟨dj, List.mem_append_right _ ?_, nbeq_self dj⟩
    simp [hj]
  have hg' : topP ((L.reverse.filter fun p => (Oper.looksAt ops ⟨some d, op, ty, pos, aft, some (j, want)⟩).any (Nat.beq p.1)).reverse ++ dropW (pl.b L.length) G) (.tmp dj) = some (pB want) := by
    simp only [topP, looks_of hm]
    exact hg
  obtain ⟨v, h1, rfl⟩ := hf'.op0 hg' (fun _ _ => trivial)
  refine opg_yes hj h1 ?_
  rw [hl]
  exact h.seen (plain_spec hp) hf' (hr.stw hs) rfl⟩
theorem d_no {j dj : Nat} {want b : Bool} (hk : DRt P f N M0 w0 pl ops k R Wa n listed G l ((d, .pu (pv undef)) :: L))
    (hj : (ops[j]?).bind (·.dst) = some dj := by rfl) (hg : topP (L ++ dropW (pl.b L.length) G) (.tmp dj) = some (pB b) := by rfl) (hb : (b == want) = false := by rfl)
    (hd : d < N := by decide) (ht : pl.t L.length = [] := by rfl) : DRt P f N M0 w0 pl ops k R Wa n listed G (⟨some d, op, ty, pos, aft, some (j, want)⟩ :: l) L := ⟨fun {M1 w1 fr} hr hf => by
  have hl : (raws w0.heap.size L).length = L.length := by simp [raws]
  refine dg_cons' (fun M w v => Kd.V w0.heap.size M w v (.pu (pv undef))) hd (fun M w M' w' v hs hv => hv) (fun M w hs => ?_) (hk.out hr hf)
  rw [hl] at hs
  refine any_rev hf hs fun fr' hf' => ?_
  have hm : (Oper.looksAt ops ⟨some d, op, ty, pos, aft, some (j, want)⟩).any (Nat.beq dj) = true := by
    refine List.any_eq_true.2 ⟨dj, List.mem_append_right _ ?_, nbeq_self dj⟩
    simp [hj]
  have hg' : topP ((L.reverse.filter fun p => (Oper.looksAt ops ⟨some d, op, ty, pos, aft, some (j, want)⟩).any (Nat.beq p.1)).reverse ++ dropW (pl.b L.length) G) (.tmp dj) = some (pB b) := by
    simp only [topP, looks_of hm]
    exact hg
  obtain ⟨v, h1, rfl⟩ := hf'.op0 hg' (fun _ _ => trivial)
  refine opg_no hj h1 (fun e => by subst e; cases b <;> cases hb) ?_
  rw [hl, ht]
  exact ⟨M, StW.refl _ _ _, rfl⟩⟩
theorem d_nil (h : RTt P f N M0 w0 ops k R n listed (L ++ dropW Wa G)) : DRt P f N M0 w0 pl ops k R Wa n listed G [] L := ⟨fun {M1 w1 fr} hr hf => by
  refine ⟨?_⟩
  intro M' w' hs
  have e : (raws w0.heap.size L).reverse = raws w0.heap.size L.reverse := by unfold raws; rw [List.map_reverse]
  rw [e]
  refine TyAll.of_fit _ (hf.after hs) fun fr' hf' => ?_
  rw [List.reverse_reverse] at hf'
  exact h.out (hr.stw hs) hf'⟩
theorem q_nil (h : Rt P f N M0 w0 k G R) (hr : Region.ready .any ops listed = []) : RTt P f N M0 w0 ops k R n listed G := ⟨fun hrn hf => rt_nil hr (h.out hrn hf)⟩
theorem q_op (i : Nat) {W : List Nat} (hr : Region.ready .any ops listed = [i]) (ho : ops[i]? = some ⟨some d, op, ty, pos, aft, none⟩) (h : TOp P N ⟨some d, op, ty, pos, aft, none⟩ G W T)
    (hk : RTt P f N M0 w0 ops k R n (listed.setIfInBounds i true) ((d, T) :: dropW W G)) (hd : d < N := by decide) : RTt P f N M0 w0 ops k R (n + 1) listed G := ⟨fun hrn hf =>
  rt_one hr ho hd ((h.fit hrn hf).mono fun _ _ ⟨_, hs, hv⟩ => hk.out (hrn.stw hs) ((hf.after hs).cons hv))⟩
theorem q_st (i key : Nat) {W : List Nat} (hr : Region.ready .any ops listed = [i]) (ho : ops[i]? = some ⟨none, op, ty, pos, aft, none⟩) (h : TOp P N ⟨none, op, ty, pos, aft, none⟩ G W T)
    (hk : RTt P f N M0 w0 ops k R n (listed.setIfInBounds i true) ((key, T) :: dropW W G)) (hg : T.ghost = true := by rfl) : RTt P f N M0 w0 ops k R (n + 1) listed G := ⟨fun hrn hf =>
  rt_one0 hr ho ((h.fit hrn hf).mono fun _ _ ⟨_, hs, hv⟩ => hk.out (hrn.stw hs) ((hf.after hs).hide (Kd.E_of_V hg hv)))⟩
end
end
def argTF : Nat → List Pub → TF
  | _, [] => []
  | i, p :: r => (i, .pu p) :: argTF (i + 1) r
theorem fit_args {B : Nat} {M : Mut} {w : World} (hl : Lays M w) : ∀ {Ps : List Pub} {vs : List Value} (i : Nat), FitL M w Ps vs → Fit B M w (argFr i vs) (argTF i Ps)
  | [], [], _, _ => ⟨hl, fun t T h _ => by cases h⟩
  | p :: r, v :: s, i, h => by
    have := fit_args (B := B) hl (i + 1) h.2
    exact ⟨hl, fun t T hT _ => by
      by_cases e : i = t
      · subst e
        rw [argTF, tlook_eq] at hT
        cases hT
        exact ⟨v, look_cons_eq _ _ _, h.1⟩
      · rw [argTF, tlook_ne _ _ e] at hT
        exact Kd.E_look (this.out t T hT (.inr trivial)) (by rw [argFr, look_cons_ne _ _ e])⟩
  | [], _ :: _, _, h => h.elim
  | _ :: _, [], _, h => h.elim
theorem FitL.len {M : Mut} {w : World} : ∀ {Ps : List Pub} {vs : List Value}, FitL M w Ps vs → vs.length = Ps.length
  | [], [], _ => rfl
  | _ :: _, _ :: _, h => by simp [h.2.len]
  | [], _ :: _, h => h.elim
  | _ :: _, [], h => h.elim
theorem fn_of {P : Program} {f : FuncId} {N : Nat} {fn : Func} {c : Code} {Ps : List Pub} {Q : Pub} (he : Ent P f) (hf : P.funcs[f]? = some fn) (hb : fn.body = some c) (hN : fn.ntmps = N) (hn : Nat.ble Ps.length N = true)
    (h : ∀ M0 w0, Rt P f N M0 w0 [.code c] (argTF 0 Ps) (RetR M0 w0 Q)) : Fn P f Ps Q := ⟨he, fun M w vs hm hl hv => by
  have hlen := hv.len
  exact callsV_of_run hf hb hN (by rw [hlen]; exact Nat.le_of_ble_eq_true hn) ((h M w).out (Rn.refl hm) (fit_args hl 0 hv))⟩
end Go.Proofs.YtedlipgopicijaaDoor
end

section
namespace Go.Proofs.YtedlipgopicijaaDoor
open Go Go.RowKit
structure Line where
  frm : Int
  til : Int
  gaps : List Int
  notes : List Int
def eLine : Enc Line := ((eI.app eI).app ((eSl eI).app (eSl eI))).via (fun L => ((L.frm, L.til), (L.gaps, L.notes))) 64 (by decide)
theorem eLine_R {M : Mut} {w : World} {cs : List Value} {L : Line} : eLine.R M w cs L ↔ ∃ g n, cs = [.int .i64 L.frm, .int .i64 L.til, g, n] ∧ I64 L.frm ∧ I64 L.til ∧ SlOf eI M w g L.gaps ∧ SlOf eI M w n L.notes := by
  constructor
  · rintro ⟨a, b, rfl, ⟨a1, a2, rfl, ⟨rfl, h1, _⟩, ⟨rfl, h2, _⟩⟩, ⟨b1, b2, rfl, ⟨g, rfl, h3⟩, ⟨n, rfl, h4⟩⟩⟩
    exact ⟨g, n, rfl, h1 rfl, h2 rfl, h3, h4⟩
  · rintro ⟨g, n, rfl, h1, h2, h3, h4⟩
    exact ⟨_, _, rfl, ⟨_, _, rfl, ⟨rfl, fun _ => h1, fun e => by cases e⟩, ⟨rfl, fun _ => h2, fun e => by cases e⟩⟩, ⟨_, _, rfl, ⟨g, rfl, h3⟩, ⟨n, rfl, h4⟩⟩⟩
structure Pg where
  num : Int
  suf : Int
  entry : Int
  version : Int
  body : List Line
  notes : List Line
def ePg : Enc Pg := ((((eI.app eI).app (eI.app eI)).app ((eSl eLine).app (eSl eLine)))).via (fun p => (((p.num, p.suf), (p.entry, p.version)), (p.body, p.notes))) 80 (by decide)
theorem ePg_R {M : Mut} {w : World} {cs : List Value} {p : Pg} : ePg.R M w cs p ↔ ∃ b n, cs = [.int .i64 p.num, .int .i64 p.suf, .int .i64 p.entry, .int .i64 p.version, b, n] ∧ (I64 p.num ∧ I64 p.suf ∧ I64 p.entry ∧ I64 p.version) ∧ SlOf eLine M w b p.body ∧ SlOf eLine M w n p.notes := by
  constructor
  · rintro ⟨a, b, rfl, ⟨a1, a2, rfl, ⟨a3, a4, rfl, ⟨rfl, h1, _⟩, ⟨rfl, h2, _⟩⟩, ⟨a5, a6, rfl, ⟨rfl, h5, _⟩, ⟨rfl, h6, _⟩⟩⟩, ⟨b1, b2, rfl, ⟨g, rfl, h3⟩, ⟨n, rfl, h4⟩⟩⟩
    exact ⟨g, n, rfl, ⟨h1 rfl, h2 rfl, h5 rfl, h6 rfl⟩, h3, h4⟩
  · rintro ⟨g, n, rfl, ⟨h1, h2, h5, h6⟩, h3, h4⟩
    exact ⟨_, _, rfl, ⟨_, _, rfl, ⟨_, _, rfl, ⟨rfl, fun _ => h1, fun e => by cases e⟩, ⟨rfl, fun _ => h2, fun e => by cases e⟩⟩, ⟨_, _, rfl, ⟨rfl, fun _ => h5, fun e => by cases e⟩, ⟨rfl, fun _ => h6, fun e => by cases e⟩⟩⟩, ⟨_, _, rfl, ⟨g, rfl, h3⟩, ⟨n, rfl, h4⟩⟩⟩
theorem uL : Tryd.prog.underlying 33 = some (.slice 42) := Tryd.underlying33
theorem uLL : Tryd.prog.underlying 34 = some (.slice 33) := Tryd.underlying34
theorem uI : Tryd.prog.underlying 22 = some (.slice 3) := Tryd.underlying22
theorem uP : Tryd.prog.underlying 48 = some (.slice 57) := Tryd.underlying48
theorem tdI : TD Tryd.prog 3 1 8 false [.int .i64 0] := TD.mk' (z := .int .i64 0) (d := .int .i64) (by kernel_rfl) (by kernel_rfl) rfl
theorem tdB : TD Tryd.prog 4 1 1 false [.bool false] := TD.mk' (z := .bool false) (d := .bool) (by kernel_rfl) (by kernel_rfl) rfl
theorem tdSI : TD Tryd.prog 22 1 24 false [.slice none 0 0] := TD.mk' (z := .slice none 0 0) (d := .slice 3) (by kernel_rfl) (by kernel_rfl) rfl
theorem tdSL : TD Tryd.prog 33 1 24 false [.slice none 0 0] := TD.mk' (z := .slice none 0 0) (d := .slice 42) (by kernel_rfl) (by kernel_rfl) rfl
theorem tdL : TD Tryd.prog 42 4 64 true [.int .i64 0, .int .i64 0, .slice none 0 0, .slice none 0 0] := by
  exact TD.mk' (z := .agg #[.int .i64 0, .int .i64 0, .slice none 0 0, .slice none 0 0]) (by kernel_rfl) Tryd.underlying42 rfl
theorem tdP : TD Tryd.prog 57 6 80 true [.int .i64 0, .int .i64 0, .int .i64 0, .int .i64 0, .slice none 0 0, .slice none 0 0] := by
  exact TD.mk' (z := .agg #[.int .i64 0, .int .i64 0, .int .i64 0, .int .i64 0, .slice none 0 0, .slice none 0 0]) (by kernel_rfl) Tryd.underlying57 rfl
theorem teI : TE Tryd.prog 3 eI := ⟨_, rfl, tdI⟩
theorem teSI : TE Tryd.prog 22 (eSl eI) := ⟨_, rfl, tdSI⟩
theorem teSL : TE Tryd.prog 33 (eSl eLine) := ⟨_, rfl, tdSL⟩
theorem teL : TE Tryd.prog 42 eLine := ⟨_, rfl, tdL⟩
theorem teP : TE Tryd.prog 57 ePg := ⟨_, rfl, tdP⟩
theorem FD.mk' {P : Program} {s : TypeId} {f off : Nat} {fs : Array Field} (h : P.underlying s = some (.struct fs)) (h2 : ((fs[f]?).bind fun fd => (P.info? fd.type).map fun i => (fd.offset, i.size == 0)) = some (off, false)) : FD P s f off := by
  cases hf : fs[f]? with
  | none => simp [hf] at h2
  | some fd =>
    cases hi : P.info? fd.type with
    | none => simp [hf, hi] at h2
    | some i =>
      simp [hf, hi] at h2
      exact ⟨fs, fd, i, h, hf, h2.1, hi, h2.2⟩
theorem FV.mk' {P : Program} {s : TypeId} {f off sz : Nat} {agg : Bool} {fs : Array Field} (h : P.underlying s = some (.struct fs))
    (h2 : ((fs[f]?).bind fun fd => (P.info? fd.type).bind fun i => (P.underlying fd.type).map fun d => (fd.offset, i.size, aggD d)) = some (off, sz, agg)) : FV P s f off sz agg := by
  cases hf : fs[f]? with
  | none => simp [hf] at h2
  | some fd =>
    cases hi : P.info? fd.type with
    | none => simp [hf, hi] at h2
    | some i =>
      cases hu : P.underlying fd.type with
      | none => simp [hf, hi, hu] at h2
      | some d =>
        simp [hf, hi, hu] at h2
        exact ⟨fs, fd, i, d, h, hf, h2.1, hi, h2.2.1, hu, h2.2.2⟩
theorem fdL0 : FD Tryd.prog 42 0 0 := FD.mk' Tryd.underlying42 (by kernel_rfl)
theorem fdL1 : FD Tryd.prog 42 1 1 := FD.mk' Tryd.underlying42 (by kernel_rfl)
theorem fdL2 : FD Tryd.prog 42 2 2 := FD.mk' Tryd.underlying42 (by kernel_rfl)
theorem fdL3 : FD Tryd.prog 42 3 3 := FD.mk' Tryd.underlying42 (by kernel_rfl)
theorem fvL0 : FV Tryd.prog 42 0 0 1 false := FV.mk' Tryd.underlying42 (by kernel_rfl)
theorem fvL1 : FV Tryd.prog 42 1 1 1 false := FV.mk' Tryd.underlying42 (by kernel_rfl)
theorem fvL2 : FV Tryd.prog 42 2 2 1 false := FV.mk' Tryd.underlying42 (by kernel_rfl)
theorem fvL3 : FV Tryd.prog 42 3 3 1 false := FV.mk' Tryd.underlying42 (by kernel_rfl)
theorem fdP0 : FD Tryd.prog 57 0 0 := FD.mk' Tryd.underlying57 (by kernel_rfl)
theorem fdP1 : FD Tryd.prog 57 1 2 := FD.mk' Tryd.underlying57 (by kernel_rfl)
theorem fdP2 : FD Tryd.prog 57 2 3 := FD.mk' Tryd.underlying57 (by kernel_rfl)
theorem fdP3 : FD Tryd.prog 57 3 4 := FD.mk' Tryd.underlying57 (by kernel_rfl)
theorem fdP4 : FD Tryd.prog 57 4 5 := FD.mk' Tryd.underlying57 (by kernel_rfl)
theorem fvP3 : FV Tryd.prog 57 3 4 1 false := FV.mk' Tryd.underlying57 (by kernel_rfl)
theorem fvP4 : FV Tryd.prog 57 4 5 1 false := FV.mk' Tryd.underlying57 (by kernel_rfl)
theorem sbL : SB Tryd.prog 42 [(0, 1), (1, 1), (2, 1), (3, 1)] [.int .i64 0, .int .i64 0, .slice none 0 0, .slice none 0 0] :=
  ⟨⟨_, Tryd.underlying42, fun w => by kernel_rfl⟩, ⟨.agg #[.int .i64 0, .int .i64 0, .slice none 0 0, .slice none 0 0], fun w => ⟨by kernel_rfl, rfl⟩⟩⟩
theorem mixed : Tryd.prog.follows .mixedOrders = true := by kernel_rfl
theorem Ent.mk' {P : Program} {g : FuncId} {fn : Func} (h : P.funcs[g]? = some fn) (h2 : ((fn.name == "runtime.NumGoroutine"), fn.body.isNone) = (false, false)) : Ent P g := by
  simp only [Prod.mk.injEq] at h2
  exact ⟨fn, h, h2.1, h2.2⟩
theorem ent7 : Ent Tryd.prog 7 := Ent.mk' Tryd.func7 (by kernel_rfl)
theorem ent8 : Ent Tryd.prog 8 := Ent.mk' Tryd.func8 (by kernel_rfl)
theorem ent9 : Ent Tryd.prog 9 := Ent.mk' Tryd.func9 (by kernel_rfl)
theorem ent10 : Ent Tryd.prog 10 := Ent.mk' Tryd.func10 (by kernel_rfl)
theorem ent11 : Ent Tryd.prog 11 := Ent.mk' Tryd.func11 (by kernel_rfl)
theorem ent13 : Ent Tryd.prog 13 := Ent.mk' Tryd.func13 (by kernel_rfl)
theorem ent14 : Ent Tryd.prog 14 := Ent.mk' Tryd.func14 (by kernel_rfl)
theorem ent17 : Ent Tryd.prog 17 := Ent.mk' Tryd.func17 (by kernel_rfl)
theorem ent26 : Ent Tryd.prog 26 := Ent.mk' Tryd.func26 (by kernel_rfl)
theorem ent27 : Ent Tryd.prog 27 := Ent.mk' Tryd.func27 (by kernel_rfl)
theorem ent28 : Ent Tryd.prog 28 := Ent.mk' Tryd.func28 (by kernel_rfl)
theorem ent29 : Ent Tryd.prog 29 := Ent.mk' Tryd.func29 (by kernel_rfl)
theorem ent30 : Ent Tryd.prog 30 := Ent.mk' Tryd.func30 (by kernel_rfl)
theorem ent31 : Ent Tryd.prog 31 := Ent.mk' Tryd.func31 (by kernel_rfl)
theorem ent32 : Ent Tryd.prog 32 := Ent.mk' Tryd.func32 (by kernel_rfl)
theorem ent35 : Ent Tryd.prog 35 := Ent.mk' Tryd.func35 (by kernel_rfl)
theorem ent36 : Ent Tryd.prog 36 := Ent.mk' Tryd.func36 (by kernel_rfl)
theorem ent37 : Ent Tryd.prog 37 := Ent.mk' Tryd.func37 (by kernel_rfl)
theorem ent38 : Ent Tryd.prog 38 := Ent.mk' Tryd.func38 (by kernel_rfl)
theorem ent39 : Ent Tryd.prog 39 := Ent.mk' Tryd.func39 (by kernel_rfl)
theorem ent40 : Ent Tryd.prog 40 := Ent.mk' Tryd.func40 (by kernel_rfl)
theorem ent51 : Ent Tryd.prog 51 := Ent.mk' Tryd.func51 (by kernel_rfl)
theorem ent52 : Ent Tryd.prog 52 := Ent.mk' Tryd.func52 (by kernel_rfl)
theorem ent53 : Ent Tryd.prog 53 := Ent.mk' Tryd.func53 (by kernel_rfl)
theorem ent54 : Ent Tryd.prog 54 := Ent.mk' Tryd.func54 (by kernel_rfl)
theorem ent55 : Ent Tryd.prog 55 := Ent.mk' Tryd.func55 (by kernel_rfl)
theorem ent56 : Ent Tryd.prog 56 := Ent.mk' Tryd.func56 (by kernel_rfl)
theorem ent62 : Ent Tryd.prog 62 := Ent.mk' Tryd.func62 (by kernel_rfl)
theorem ent63 : Ent Tryd.prog 63 := Ent.mk' Tryd.func63 (by kernel_rfl)
theorem ent64 : Ent Tryd.prog 64 := Ent.mk' Tryd.func64 (by kernel_rfl)
theorem ent65 : Ent Tryd.prog 65 := Ent.mk' Tryd.func65 (by kernel_rfl)
theorem ent74 : Ent Tryd.prog 74 := Ent.mk' Tryd.func74 (by kernel_rfl)
theorem ent80 : Ent Tryd.prog 80 := Ent.mk' Tryd.func80 (by kernel_rfl)
theorem ent85 : Ent Tryd.prog 85 := Ent.mk' Tryd.func85 (by kernel_rfl)
theorem ent86 : Ent Tryd.prog 86 := Ent.mk' Tryd.func86 (by kernel_rfl)
theorem ent90 : Ent Tryd.prog 90 := Ent.mk' Tryd.func90 (by kernel_rfl)
theorem ent95 : Ent Tryd.prog 95 := Ent.mk' Tryd.func95 (by kernel_rfl)
end Go.Proofs.YtedlipgopicijaaDoor
end

section
namespace Go.Proofs.YtedlipgopicijaaDoor
open Go Go.RowKit
structure Lens {α β : Type} (E : Enc α) (off : Nat) (E' : Enc β) (pr : α → β) (st : α → β → α) : Prop where
  fit : off + E'.sz ≤ E.sz
  sub : ∀ {M : Mut} {w : World} {cs : List Value} {x : α}, E.R M w cs x → E'.R M w ((cs.drop off).take E'.sz) (pr x)
  set : ∀ {M : Mut} {w : World} {cs c : List Value} {x : α} {y : β}, E.R M w cs x → E'.R M w c y → E.R M w (splice cs off c) (st x y)
section
variable {α β γ δ : Type} {E : Enc α} {A : Enc α} {B : Enc β} {F : Enc γ} {off : Nat}
theorem Lens.id (E : Enc α) : Lens E 0 E (fun x => x) (fun _ y => y) :=
  ⟨by omega, fun h => by rw [List.drop_zero, List.take_of_length_le (by rw [E.len h]; omega)]; exact h, fun h h2 => by
    unfold splice
    rw [List.take_zero, List.nil_append, List.drop_of_length_le (by rw [E.len h, E.len h2]; omega), List.append_nil]
    exact h2⟩
theorem Lens.left (B : Enc β) {pr : α → γ} {st : α → γ → α} (h : Lens A off F pr st) : Lens (A.app B) off F (fun x => pr x.1) (fun x y => (st x.1 y, x.2)) :=
  ⟨by have := h.fit; show off + F.sz ≤ A.sz + B.sz; omega, fun {M w cs x} ⟨a, b, e, h1, h2⟩ => by
    subst e
    have hl := A.len h1
    have := h.fit
    rw [List.drop_append_of_le_length (by omega), List.take_append_of_le_length (by rw [List.length_drop]; omega)]
    exact h.sub h1, fun {M w cs c x y} ⟨a, b, e, h1, h2⟩ hc => by
    subst e
    have hl := A.len h1
    have hcl := F.len hc
    have := h.fit
    rw [splice_left (by omega)]
    exact ⟨_, b, rfl, h.set h1 hc, h2⟩⟩
theorem Lens.right (A : Enc α) {pr : β → γ} {st : β → γ → β} (h : Lens B off F pr st) : Lens (A.app B) (A.sz + off) F (fun x => pr x.2) (fun x y => (x.1, st x.2 y)) :=
  ⟨by have := h.fit; show A.sz + off + F.sz ≤ A.sz + B.sz; omega, fun {M w cs x} ⟨a, b, e, h1, h2⟩ => by
    subst e
    have hl := A.len h1
    rw [← hl, List.drop_length_add_append]
    exact h.sub h2, fun {M w cs c x y} ⟨a, b, e, h1, h2⟩ hc => by
    subst e
    have hl := A.len h1
    rw [← hl, splice_right]
    exact ⟨a, _, rfl, h1, h.set h2 hc⟩⟩
theorem Lens.via {g : δ → α} {by' : Nat} {hb : 0 < by'} {pr : α → γ} {st : α → γ → α} (pr' : δ → γ) (st' : δ → γ → δ) (h : Lens E off F pr st) (h1 : ∀ x, pr' x = pr (g x) := by intros; rfl) (h2 : ∀ x y, g (st' x y) = st (g x) y := by intros; rfl) :
    Lens (E.via g by' hb) off F pr' st' :=
  ⟨h.fit, fun {M w cs x} hr => by rw [h1]; exact h.sub hr, fun {M w cs c x y} hr hc => by
    show E.R M w (splice cs off c) (g (st' x y))
    rw [h2]
    exact h.set hr hc⟩
theorem Lens.elem {pr : α → γ} {st : α → γ → α} (h : Lens E off F pr st) {M : Mut} {w : World} {ad : Addr} {x : α} (he : Elem E M w ad x) : Elem F M w (ad.add off) (pr x) := by
  obtain ⟨cs, h1, h2⟩ := he
  refine ⟨_, h.sub h1, fun j c hj => ?_⟩
  rw [add_add']
  refine h2 _ c ?_
  rw [List.getElem?_take] at hj
  split at hj
  · rw [List.getElem?_drop] at hj; exact hj
  · cases hj
theorem Lens.fd {P : Program} {s : TypeId} {f : Nat} {pr : α → γ} {st : α → γ → α} (h : Lens E off F pr st) (hf : FD P s f off) : FDc P s f E F pr st :=
  ⟨off, hf, h.elem, fun h1 h2 => ⟨by rw [F.len h2]; exact h.fit, h.set h1 h2⟩⟩
theorem Lens.fv {P : Program} {s : TypeId} {f : Nat} {pr : α → γ} {st : α → γ → α} {Q : γ → Pub} (h : Lens E off F pr st) (hf : FV P s f off F.sz F.agg) (ha : E.agg = true) (hQ : LDc F Q) : FVc P s f E (fun x => Q (pr x)) :=
  ⟨fun {N fr M w d ty pos aft g x v a Ψ} hx hv hΨ => by
    obtain ⟨cs, h1, h2⟩ := hv
    rw [ha] at h2
    subst h2
    have hs := h.sub h1
    have hV : F.V M w (mkv F.agg ((cs.drop off).take F.sz)) (pr a) := ⟨_, hs, rfl⟩
    have hl := F.len hs
    cases hag : F.agg
    · rw [hag] at hf hV
      have h1s := F.one1 hag
      rw [h1s] at hV hl
      have hc : ∃ c, cs[off]? = some c ∧ (cs.drop off).take 1 = [c] := by
        cases hcs : cs[off]? with
        | none =>
          rw [List.getElem?_eq_none_iff] at hcs
          rw [List.drop_of_length_le hcs] at hl
          simp at hl
        | some c =>
          refine ⟨c, rfl, ?_⟩
          obtain ⟨hlt, rfl⟩ := List.getElem?_eq_some_iff.1 hcs
          rw [List.drop_eq_getElem_cons hlt]
          rfl
      obtain ⟨c, c1, c2⟩ := hc
      rw [c2] at hV
      exact op_field1 hf hx c1 (hΨ _ (hQ.out hV))
    · rw [hag] at hf hV
      exact op_fieldn hf hx (hΨ _ (hQ.out hV))⟩
structure BLs (plc : List (Nat × Nat)) (E : Enc α) (x0 : α) (idx : List Nat) (Qs : List Pub) (x : α) : Prop where
  out : ∀ {M : Mut} {w : World} {cs vs : List Value}, E.R M w cs x0 → FitL M w Qs vs → ∃ pl, PartsOk (fun i => plc[i]?) cs.length (idx.zip vs) pl ∧ E.R M w (splices cs pl) x
theorem bls_nil {plc : List (Nat × Nat)} {x : α} : BLs plc E x [] [] x := ⟨fun {M w cs vs} h hf => by
  cases vs with
  | nil => exact ⟨[], trivial, h⟩
  | cons => exact hf.elim⟩
theorem bls_cons {plc : List (Nat × Nat)} {x0 x : α} {i : Nat} {idx : List Nat} {Q : Pub} {Qs : List Pub} {y : γ} {pr : α → γ} {st : α → γ → α} (h : Lens E off F pr st) (hp : PEc Q F y) (hi : plc[i]? = some (off, F.sz)) (hr : BLs plc E (st x0 y) idx Qs x) :
    BLs plc E x0 (i :: idx) (Q :: Qs) x := ⟨fun {M w cs vs} h0 hf => by
  cases vs with
  | nil => exact hf.elim
  | cons v vs =>
    obtain ⟨c, c1, c2⟩ := hp.out hf.1
    have hcl := F.len c1
    have hfit := h.fit
    have hl := E.len h0
    obtain ⟨pl, p1, p2⟩ := hr.out (h.set h0 c1) hf.2
    refine ⟨(off, c) :: pl, ⟨by simpa [hcl] using hi, by rw [c2]; exact mkv_cells c1, by omega, ?_⟩, p2⟩
    rw [length_splice (by omega)] at p1
    exact p1⟩
theorem blc {P : Program} {t : TypeId} {plc : List (Nat × Nat)} {z : List Value} {x0 x : α} {idx : List Nat} {Qs : List Pub} (hS : SB P t plc z) (ha : E.agg = true) (hz : ∀ M w, E.R M w z x0) (h : BLs plc E x0 idx Qs x) : BLc P t idx Qs E x :=
  ⟨fun {N fr M w d ty pos aft g parts vs Ψ} hi hx hf hΨ => by
    obtain ⟨pl, p1, p2⟩ := h.out (hz M w) hf
    subst hi
    exact op_build hS hx p1 (hΨ _ ⟨_, p2, by rw [ha]; rfl⟩)⟩
end
instance : BYc eI 8 := ⟨rfl⟩
instance {α : Type} {E : Enc α} : BYc (eSl E) 24 := ⟨rfl⟩
instance {k : IntKind} : LDc (eN k) (pK k) := ⟨fun {M w v x} ⟨cs, ⟨h1, h2, h3⟩, h⟩ => by subst h1; exact ⟨h, h2, h3⟩⟩
instance {α : Type} {E : Enc α} : LDc (eSl E) (pSl E) := ⟨fun h => eSl_V.1 h⟩
instance {k : IntKind} {n : Int} : PEc (pK k n) (eN k) n := ⟨fun {M w v} ⟨h, h1, h2⟩ => ⟨[v], ⟨by rw [h], h1, h2⟩, rfl⟩⟩
instance {α : Type} {E : Enc α} {l : List α} : PEc (pSl E l) (eSl E) l := ⟨fun h => eSl_V.2 h⟩
instance {α : Type} {E : Enc α} : PEc (pv (.slice none 0 0)) (eSl E) [] := ⟨fun {M w v} h => by cases h; exact eSl_V.2 (SlOf.nil E M w)⟩
instance {α : Type} {E : Enc α} {x : α} : PEc (pV E x) E x := ⟨fun h => h⟩
def eB : Enc Bool where
  sz := 1
  by_ := 1
  agg := false
  R := fun _ _ cs b => cs = [.bool b]
  pos := by decide
  bpos := by decide
  one1 := fun _ => rfl
  len := fun h => by rw [h]; rfl
  one := fun h c hc => by rw [h] at hc; simp at hc; subst hc; rfl
  mono := fun h _ => h
instance : BYc eB 1 := ⟨rfl⟩
instance : LDc eB pB := ⟨fun {M w v x} ⟨cs, h1, h⟩ => by subst h1; exact h⟩
instance {b : Bool} : PEc (pB b) eB b := ⟨fun {M w v} h => ⟨[v], by rw [h]; rfl, rfl⟩⟩
instance : USl Tryd.prog 22 3 := ⟨uI⟩
instance : TEc Tryd.prog 3 eI := ⟨teI⟩
instance : TEc Tryd.prog 22 (eSl eI) := ⟨teSI⟩
instance : TEc Tryd.prog 4 eB := ⟨_, rfl, tdB⟩
instance : ZEc Tryd.prog 3 eI 0 := ⟨_, tdI, fun _ _ => ⟨rfl, fun _ => by unfold I64; omega, fun e => by cases e⟩⟩
instance : ZEc Tryd.prog 4 eB false := ⟨_, tdB, fun _ _ => rfl⟩
instance : ZEc Tryd.prog 22 (eSl eI) [] := ⟨_, tdSI, fun M w => ⟨_, rfl, SlOf.nil eI M w⟩⟩
instance : USl Tryd.prog 33 42 := ⟨uL⟩
instance : USl Tryd.prog 34 33 := ⟨uLL⟩
instance : TEc Tryd.prog 42 eLine := ⟨teL⟩
instance : TEc Tryd.prog 33 (eSl eLine) := ⟨teSL⟩
instance : BYc eLine 64 := ⟨rfl⟩
instance : LDc eLine (pV eLine) := ⟨fun h => h⟩
theorem lineZ (M : Mut) (w : World) : eLine.R M w [.int .i64 0, .int .i64 0, .slice none 0 0, .slice none 0 0] ⟨0, 0, [], []⟩ :=
  eLine_R.2 ⟨_, _, rfl, by unfold I64; simp, by unfold I64; simp, SlOf.nil _ _ _, SlOf.nil _ _ _⟩
instance : ZEc Tryd.prog 42 eLine ⟨0, 0, [], []⟩ := ⟨_, tdL, lineZ⟩
instance : ZEc Tryd.prog 33 (eSl eLine) [] := ⟨_, tdSL, fun M w => ⟨_, rfl, SlOf.nil eLine M w⟩⟩
theorem l0 : Lens eLine 0 eI Line.frm (fun x y => { x with frm := y }) := (((Lens.id eI).left eI).left _).via _ _
theorem l1 : Lens eLine 1 eI Line.til (fun x y => { x with til := y }) := (((Lens.id eI).right eI).left _).via _ _
theorem l2 : Lens eLine 2 (eSl eI) Line.gaps (fun x y => { x with gaps := y }) := (((Lens.id (eSl eI)).left (eSl eI)).right (eI.app eI)).via _ _
theorem l3 : Lens eLine 3 (eSl eI) Line.notes (fun x y => { x with notes := y }) := (((Lens.id (eSl eI)).right (eSl eI)).right (eI.app eI)).via _ _
instance : FDc Tryd.prog 42 0 eLine eI Line.frm (fun x y => { x with frm := y }) := l0.fd fdL0
instance : FDc Tryd.prog 42 1 eLine eI Line.til (fun x y => { x with til := y }) := l1.fd fdL1
instance : FDc Tryd.prog 42 2 eLine (eSl eI) Line.gaps (fun x y => { x with gaps := y }) := l2.fd fdL2
instance : FDc Tryd.prog 42 3 eLine (eSl eI) Line.notes (fun x y => { x with notes := y }) := l3.fd fdL3
instance : FVc Tryd.prog 42 0 eLine (fun x => pI x.frm) := l0.fv fvL0 rfl inferInstance
instance : FVc Tryd.prog 42 1 eLine (fun x => pI x.til) := l1.fv fvL1 rfl inferInstance
instance : FVc Tryd.prog 42 2 eLine (fun x => pSl eI x.gaps) := l2.fv fvL2 rfl inferInstance
instance : FVc Tryd.prog 42 3 eLine (fun x => pSl eI x.notes) := l3.fv fvL3 rfl inferInstance
def eLb : Enc (Int × Int) := eI.app eI
theorem tdLb : TD Tryd.prog 55 2 16 true [.int .i64 0, .int .i64 0] := by
  exact TD.mk' (z := .agg #[.int .i64 0, .int .i64 0]) (by kernel_rfl) Tryd.underlying55 rfl
instance : TEc Tryd.prog 55 eLb := ⟨_, rfl, tdLb⟩
instance : LDc eLb (pV eLb) := ⟨fun h => h⟩
instance : USl Tryd.prog 48 57 := ⟨uP⟩
instance : TEc Tryd.prog 57 ePg := ⟨teP⟩
instance : BYc ePg 80 := ⟨rfl⟩
instance : LDc ePg (pV ePg) := ⟨fun h => h⟩
theorem pgZ (M : Mut) (w : World) : ePg.R M w [.int .i64 0, .int .i64 0, .int .i64 0, .int .i64 0, .slice none 0 0, .slice none 0 0] ⟨0, 0, 0, 0, [], []⟩ :=
  ePg_R.2 ⟨_, _, rfl, by unfold I64; simp, SlOf.nil _ _ _, SlOf.nil _ _ _⟩
instance : ZEc Tryd.prog 57 ePg ⟨0, 0, 0, 0, [], []⟩ := ⟨_, tdP, pgZ⟩
theorem p0 : Lens ePg 0 eLb (fun p => (p.num, p.suf)) (fun x y => { x with num := y.1, suf := y.2 }) := (((Lens.id (eI.app eI)).left (eI.app eI)).left _).via _ _
theorem p1 : Lens ePg 2 eI Pg.entry (fun x y => { x with entry := y }) := ((((Lens.id eI).left eI).right (eI.app eI)).left _).via _ _
theorem p2 : Lens ePg 3 eI Pg.version (fun x y => { x with version := y }) := ((((Lens.id eI).right eI).right (eI.app eI)).left _).via _ _
theorem p3 : Lens ePg 4 (eSl eLine) Pg.body (fun x y => { x with body := y }) := (((Lens.id (eSl eLine)).left (eSl eLine)).right ((eI.app eI).app (eI.app eI))).via _ _
theorem p4 : Lens ePg 5 (eSl eLine) Pg.notes (fun x y => { x with notes := y }) := (((Lens.id (eSl eLine)).right (eSl eLine)).right ((eI.app eI).app (eI.app eI))).via _ _
instance : FDc Tryd.prog 57 0 ePg eLb (fun p => (p.num, p.suf)) (fun x y => { x with num := y.1, suf := y.2 }) := p0.fd fdP0
instance : FDc Tryd.prog 57 1 ePg eI Pg.entry (fun x y => { x with entry := y }) := p1.fd fdP1
instance : FDc Tryd.prog 57 2 ePg eI Pg.version (fun x y => { x with version := y }) := p2.fd fdP2
instance : FDc Tryd.prog 57 3 ePg (eSl eLine) Pg.body (fun x y => { x with body := y }) := p3.fd fdP3
instance : FDc Tryd.prog 57 4 ePg (eSl eLine) Pg.notes (fun x y => { x with notes := y }) := p4.fd fdP4
instance : FVc Tryd.prog 57 3 ePg (fun x => pSl eLine x.body) := p3.fv fvP3 rfl inferInstance
instance : FVc Tryd.prog 57 4 ePg (fun x => pSl eLine x.notes) := p4.fv fvP4 rfl inferInstance
end Go.Proofs.YtedlipgopicijaaDoor
end

section
namespace Go.Proofs.YtedlipgopicijaaDoor
open Go Go.RowKit
instance : BYc eStr 16 := ⟨rfl⟩
instance : LDc eStr pS := ⟨fun h => eStr_V.1 h⟩
instance {s : ByteArray} : PEc (pS s) eStr s := ⟨fun h => eStr_V.2 h⟩
structure Wd where
  s : ByteArray
  key : ByteArray
  table : Int
  note : Int
def eWord : Enc Wd := ((eStr.app eStr).app (eI.app eI)).via (fun x => ((x.s, x.key), (x.table, x.note))) 48 (by decide)
structure Tx where
  paras : List (List Wd)
  notes : List (List Wd)
def eText : Enc Tx := ((eSl (eSl eWord)).app (eSl (eSl eWord))).via (fun t => (t.paras, t.notes)) 48 (by decide)
theorem tdStr : TD Tryd.prog 9 1 16 false [.string ⟨#[]⟩] := TD.mk' (z := .string ⟨#[]⟩) (d := .string) (by kernel_rfl) (by kernel_rfl) rfl
theorem tdW : TD Tryd.prog 29 4 48 true [.string ⟨#[]⟩, .string ⟨#[]⟩, .int .i64 0, .int .i64 0] := by
  exact TD.mk' (z := .agg #[.string ⟨#[]⟩, .string ⟨#[]⟩, .int .i64 0, .int .i64 0]) (by kernel_rfl) Tryd.underlying29 rfl
theorem tdSW : TD Tryd.prog 27 1 24 false [.slice none 0 0] := TD.mk' (z := .slice none 0 0) (d := .slice 29) (by kernel_rfl) (by kernel_rfl) rfl
theorem tdSSW : TD Tryd.prog 23 1 24 false [.slice none 0 0] := TD.mk' (z := .slice none 0 0) (d := .slice 27) (by kernel_rfl) (by kernel_rfl) rfl
theorem tdT : TD Tryd.prog 25 2 48 true [.slice none 0 0, .slice none 0 0] := by
  exact TD.mk' (z := .agg #[.slice none 0 0, .slice none 0 0]) (by kernel_rfl) Tryd.underlying25 rfl
instance : TEc Tryd.prog 9 eStr := ⟨_, rfl, tdStr⟩
instance : TEc Tryd.prog 29 eWord := ⟨_, rfl, tdW⟩
instance : TEc Tryd.prog 27 (eSl eWord) := ⟨_, rfl, tdSW⟩
instance : TEc Tryd.prog 23 (eSl (eSl eWord)) := ⟨_, rfl, tdSSW⟩
instance : TEc Tryd.prog 25 eText := ⟨_, rfl, tdT⟩
instance : USl Tryd.prog 27 29 := ⟨Tryd.underlying27⟩
instance : USl Tryd.prog 23 27 := ⟨Tryd.underlying23⟩
instance : BYc eWord 48 := ⟨rfl⟩
instance : LDc eWord (pV eWord) := ⟨fun h => h⟩
instance : LDc eText (pV eText) := ⟨fun h => h⟩
theorem w0l : Lens eWord 0 eStr Wd.s (fun x y => { x with s := y }) := (((Lens.id eStr).left eStr).left _).via _ _
theorem w1l : Lens eWord 1 eStr Wd.key (fun x y => { x with key := y }) := (((Lens.id eStr).right eStr).left _).via _ _
theorem w2l : Lens eWord 2 eI Wd.table (fun x y => { x with table := y }) := (((Lens.id eI).left eI).right (eStr.app eStr)).via _ _
theorem w3l : Lens eWord 3 eI Wd.note (fun x y => { x with note := y }) := (((Lens.id eI).right eI).right (eStr.app eStr)).via _ _
theorem fdW0 : FD Tryd.prog 29 0 0 := FD.mk' Tryd.underlying29 (by kernel_rfl)
theorem fdW1 : FD Tryd.prog 29 1 1 := FD.mk' Tryd.underlying29 (by kernel_rfl)
theorem fdW2 : FD Tryd.prog 29 2 2 := FD.mk' Tryd.underlying29 (by kernel_rfl)
theorem fdW3 : FD Tryd.prog 29 3 3 := FD.mk' Tryd.underlying29 (by kernel_rfl)
theorem fvW0 : FV Tryd.prog 29 0 0 1 false := FV.mk' Tryd.underlying29 (by kernel_rfl)
theorem fvW1 : FV Tryd.prog 29 1 1 1 false := FV.mk' Tryd.underlying29 (by kernel_rfl)
theorem fvW2 : FV Tryd.prog 29 2 2 1 false := FV.mk' Tryd.underlying29 (by kernel_rfl)
theorem fvW3 : FV Tryd.prog 29 3 3 1 false := FV.mk' Tryd.underlying29 (by kernel_rfl)
instance : FDc Tryd.prog 29 0 eWord eStr Wd.s (fun x y => { x with s := y }) := w0l.fd fdW0
instance : FDc Tryd.prog 29 1 eWord eStr Wd.key (fun x y => { x with key := y }) := w1l.fd fdW1
instance : FDc Tryd.prog 29 2 eWord eI Wd.table (fun x y => { x with table := y }) := w2l.fd fdW2
instance : FDc Tryd.prog 29 3 eWord eI Wd.note (fun x y => { x with note := y }) := w3l.fd fdW3
instance : FVc Tryd.prog 29 0 eWord (fun x => pS x.s) := w0l.fv fvW0 rfl inferInstance
instance : FVc Tryd.prog 29 1 eWord (fun x => pS x.key) := w1l.fv fvW1 rfl inferInstance
instance : FVc Tryd.prog 29 2 eWord (fun x => pI x.table) := w2l.fv fvW2 rfl inferInstance
instance : FVc Tryd.prog 29 3 eWord (fun x => pI x.note) := w3l.fv fvW3 rfl inferInstance
theorem x0l : Lens eText 0 (eSl (eSl eWord)) Tx.paras (fun x y => { x with paras := y }) := ((Lens.id (eSl (eSl eWord))).left _).via _ _
theorem x1l : Lens eText 1 (eSl (eSl eWord)) Tx.notes (fun x y => { x with notes := y }) := ((Lens.id (eSl (eSl eWord))).right (eSl (eSl eWord))).via _ _
theorem fdT0 : FD Tryd.prog 25 0 0 := FD.mk' Tryd.underlying25 (by kernel_rfl)
theorem fdT1 : FD Tryd.prog 25 1 1 := FD.mk' Tryd.underlying25 (by kernel_rfl)
theorem fvT0 : FV Tryd.prog 25 0 0 1 false := FV.mk' Tryd.underlying25 (by kernel_rfl)
theorem fvT1 : FV Tryd.prog 25 1 1 1 false := FV.mk' Tryd.underlying25 (by kernel_rfl)
instance : FDc Tryd.prog 25 0 eText (eSl (eSl eWord)) Tx.paras (fun x y => { x with paras := y }) := x0l.fd fdT0
instance : FDc Tryd.prog 25 1 eText (eSl (eSl eWord)) Tx.notes (fun x y => { x with notes := y }) := x1l.fd fdT1
instance : FVc Tryd.prog 25 0 eText (fun x => pSl (eSl eWord) x.paras) := x0l.fv fvT0 rfl inferInstance
instance : FVc Tryd.prog 25 1 eText (fun x => pSl (eSl eWord) x.notes) := x1l.fv fvT1 rfl inferInstance
end Go.Proofs.YtedlipgopicijaaDoor
end

section
namespace Go.Proofs.YtedlipgopicijaaDoor
open Go Go.RowKit
theorem strEq (a b : ByteArray) : (a.toList == b.toList) = decide (a = b) := by
  rw [ByteArray.toList_eq, ByteArray.toList_eq, Bool.eq_iff_iff]
  simp only [beq_iff_eq, decide_eq_true_eq]
  exact ⟨fun h => ByteArray.ext (Array.ext' h), fun h => by rw [h]⟩
class STc (P : Program) (t : TypeId) : Prop where
  out : P.underlying t = some .string
class IKc (P : Program) (t : TypeId) (k : outParam IntKind) : Prop where
  out : P.underlying t = some (.int k)
section
variable {P : Program} {N : Nat} {G : TF} {d : Option Tmp} {ty : TypeId} {pos : String} {aft : Array Edge} {g : Option (Nat × Bool)}
theorem t_lenStr {x : Operand} {s : ByteArray} {t : TypeId} (hx : topP G x = some (pS s) := by rfl) (ht : STc P t := by infer_instance) :
    TOp P N ⟨d, .call ⟨.builtin .len, #[x], #[t]⟩, ty, pos, aft, g⟩ G [] (.pu (pI s.size)) := .pure [x] (by simp [Op.operands, Call.operands]) fun {B M w fr} hf => by
  obtain ⟨_, h0, rfl, h1⟩ := hf.op hx (by simp)
  exact OP.val (v := .int .i64 s.size) (fun a ha => by
    simp [execOp, resolve, invoke, builtin, Builtin.len_, ha.eval h0, run_underlying ht.out, goInt]) ⟨rfl, rfl, rng64 (by omega)⟩
theorem t_idxStr {x i : Operand} {s : ByteArray} {t : TypeId} {k : IntKind} {n : Nat} (hx : topP G x = some (pS s) := by rfl) (hi : topP G i = some (pK k (n : Int)) := by rfl) (ht : STc P t := by infer_instance) (hn : n < s.size := by omega) :
    TOp P N ⟨d, .index t x i, ty, pos, aft, g⟩ G [] (.pu (pK .u8 (s[n]'hn).toNat)) := .pure [x, i] (by simp [Op.operands]) fun {B M w fr} hf => by
  obtain ⟨_, h0, rfl, h1⟩ := hf.op hx (by simp)
  obtain ⟨_, h2, rfl, _⟩ := hf.op hi (by simp)
  have hr := run_index_string (P := P) (w := w) t s k n ht.out
  have hb := (s[n]'hn).toNat_lt
  exact OP.val (v := .int .u8 (s[n]'hn).toNat) (fun a ha => by
    simp [execOp, ha.eval h0, ha.eval h2, hr, hn]) ⟨rfl, rfl, (fun e => by cases e), fun _ => by omega⟩
theorem t_neqStr {x y : Operand} {s r : ByteArray} {t u : TypeId} (hx : topP G x = some (pS s) := by rfl) (hy : topP G y = some (pS r) := by rfl) :
    TOp P N ⟨d, .binOp .neq t x y u, ty, pos, aft, g⟩ G [] (.pu (pB (decide (s ≠ r)))) := .pure [x, y] (by simp [Op.operands]) fun {B M w fr} hf => by
  obtain ⟨_, h0, rfl, h1⟩ := hf.op hx (by simp)
  obtain ⟨_, h2, rfl, _⟩ := hf.op hy (by simp)
  exact OP.val (v := .bool (decide (s ≠ r))) (fun a ha => by
    simp [execOp, eqGuard, ha.eval h0, ha.eval h2, binOp_string_neq, strEq]) ⟨rfl, rfl⟩
theorem t_eqlStr {x y : Operand} {s r : ByteArray} {t u : TypeId} (hx : topP G x = some (pS s) := by rfl) (hy : topP G y = some (pS r) := by rfl) :
    TOp P N ⟨d, .binOp .eql t x y u, ty, pos, aft, g⟩ G [] (.pu (pB (decide (s = r)))) := .pure [x, y] (by simp [Op.operands]) fun {B M w fr} hf => by
  obtain ⟨_, h0, rfl, h1⟩ := hf.op hx (by simp)
  obtain ⟨_, h2, rfl, _⟩ := hf.op hy (by simp)
  exact OP.val (v := .bool (decide (s = r))) (fun a ha => by
    simp [execOp, eqGuard, ha.eval h0, ha.eval h2, binOp_string_eql, strEq]) ⟨rfl, rfl⟩
theorem rngWrap (k : IntKind) (n : Int) : Rng k (k.wrap n) := ⟨fun e => by subst e; rw [IntKind.wrap_i64]; unfold I64; omega, fun e => by subst e; rw [IntKind.wrap_u8]; omega⟩
section ints
variable {x y : Operand} {m n : Int} {t u : TypeId} {k : IntKind}
theorem t_addK (hx : topP G x = some (pK k m) := by rfl) (hy : topP G y = some (pK k n) := by rfl) : TOp P N ⟨d, .binOp .add t x y u, ty, pos, aft, g⟩ G [] (.pu (pK k (k.wrap (m + n)))) := .pure [x, y] (by simp [Op.operands]) fun hf => by
  obtain ⟨_, h0, rfl, _⟩ := hf.op hx (by simp)
  obtain ⟨_, h1, rfl, _⟩ := hf.op hy (by simp)
  exact OP.val (v := .int k (k.wrap (m + n))) (fun a ha => by simp [execOp, ha.eval h0, ha.eval h1, eqGuard_at_int, binOp_add, Op.intArith]) ⟨rfl, rfl, rngWrap _ _⟩
theorem t_subK (hx : topP G x = some (pK k m) := by rfl) (hy : topP G y = some (pK k n) := by rfl) : TOp P N ⟨d, .binOp .sub t x y u, ty, pos, aft, g⟩ G [] (.pu (pK k (k.wrap (m - n)))) := .pure [x, y] (by simp [Op.operands]) fun hf => by
  obtain ⟨_, h0, rfl, _⟩ := hf.op hx (by simp)
  obtain ⟨_, h1, rfl, _⟩ := hf.op hy (by simp)
  exact OP.val (v := .int k (k.wrap (m - n))) (fun a ha => by simp [execOp, ha.eval h0, ha.eval h1, eqGuard_at_int, binOp_sub, Op.intArith]) ⟨rfl, rfl, rngWrap _ _⟩
theorem t_mulK (hx : topP G x = some (pK k m) := by rfl) (hy : topP G y = some (pK k n) := by rfl) : TOp P N ⟨d, .binOp .mul t x y u, ty, pos, aft, g⟩ G [] (.pu (pK k (k.wrap (m * n)))) := .pure [x, y] (by simp [Op.operands]) fun hf => by
  obtain ⟨_, h0, rfl, _⟩ := hf.op hx (by simp)
  obtain ⟨_, h1, rfl, _⟩ := hf.op hy (by simp)
  exact OP.val (v := .int k (k.wrap (m * n))) (fun a ha => by simp [execOp, ha.eval h0, ha.eval h1, eqGuard_at_int, binOp_mul, Op.intArith]) ⟨rfl, rfl, rngWrap _ _⟩
def orK (k : IntKind) (m n : Int) : Int := k.wrap ((BitVec.ofInt k.bits m ||| BitVec.ofInt k.bits n).toNat : Int)
theorem t_orK (hx : topP G x = some (pK k m) := by rfl) (hy : topP G y = some (pK k n) := by rfl) : TOp P N ⟨d, .binOp .or t x y u, ty, pos, aft, g⟩ G [] (.pu (pK k (orK k m n))) := .pure [x, y] (by simp [Op.operands]) fun hf => by
  obtain ⟨_, h0, rfl, _⟩ := hf.op hx (by simp)
  obtain ⟨_, h1, rfl, _⟩ := hf.op hy (by simp)
  exact OP.val (v := .int k (orK k m n)) (fun a ha => by simp [execOp, ha.eval h0, ha.eval h1, eqGuard_at_int, binOp, Op.intBits, orK]) ⟨rfl, rfl, rngWrap _ _⟩
theorem t_shrU32 {s : Nat} {k2 : IntKind} (hx : topP G x = some (pK .u32 m) := by rfl) (hy : topP G y = some (pK k2 (s : Int)) := by rfl) (hs : s ≤ 32 := by decide) : TOp P N ⟨d, .binOp .shr t x y u, ty, pos, aft, g⟩ G [] (.pu (pK .u32 (m / 2 ^ s))) := .pure [x, y] (by simp [Op.operands]) fun hf => by
  obtain ⟨_, h0, rfl, _⟩ := hf.op hx (by simp)
  obtain ⟨_, h1, rfl, _⟩ := hf.op hy (by simp)
  have hb : IntKind.u32.bits = 32 := rfl
  have hn : ¬ ((s : Int) < 0) := by omega
  exact OP.val (v := .int .u32 (m / 2 ^ s)) (fun a ha => by
    simp [execOp, ha.eval h0, ha.eval h1, eqGuard, binOp, Op.shift, hn, hb, Nat.min_eq_left hs]) ⟨rfl, rfl, (fun e => by cases e), fun e => by cases e⟩
theorem t_cvK {k2 : IntKind} (hx : topP G x = some (pK k2 m) := by rfl) {k0 : IntKind} (h1 : IKc P t k0 := by infer_instance) (h2 : IKc P u k := by infer_instance) : TOp P N ⟨d, .convert t u x, ty, pos, aft, g⟩ G [] (.pu (pK k (k.wrap m))) := .pure [x] (by simp [Op.operands]) fun {B M w fr} hf => by
  obtain ⟨_, h0, rfl, _⟩ := hf.op hx (by simp)
  exact OP.val (v := .int k (k.wrap m)) (fun a ha => by simp [execOp, ha.eval h0, convert, run_underlying h1.out, run_underlying h2.out, Conv.intToInt]) ⟨rfl, rfl, rngWrap _ _⟩
theorem t_cvS {k2 : IntKind} {r : Int} (hr : k.wrap m = r) (hx : topP G x = some (pK k2 m) := by rfl) {k0 : IntKind} (h1 : IKc P t k0 := by infer_instance) (h2 : IKc P u k := by infer_instance) : TOp P N ⟨d, .convert t u x, ty, pos, aft, g⟩ G [] (.pu (pK k r)) := by subst hr; exact t_cvK hx h1 h2
theorem t_cvB (hx : topP G x = some (pK .u8 m) := by rfl) {k0 : IntKind} (h1 : IKc P t k0 := by infer_instance) (h2 : IKc P u .i64 := by infer_instance) : TOp P N ⟨d, .convert t u x, ty, pos, aft, g⟩ G [] (.pu (pI m)) := .pure [x] (by simp [Op.operands]) fun {B M w fr} hf => by
  obtain ⟨_, h0, rfl, hr⟩ := hf.op hx (by simp)
  have h3 := hr.2 rfl
  have e : IntKind.i64.wrap m = m := IntWalk.i64_in _ (by omega)
  exact OP.val (v := .int .i64 m) (fun a ha => by simp [execOp, ha.eval h0, convert, run_underlying h1.out, run_underlying h2.out, Conv.intToInt, e]) ⟨rfl, rfl, rng64 (by omega)⟩
theorem t_subB (hx : topP G x = some (pK .u8 m) := by rfl) (hy : topP G y = some (pK .u8 n) := by rfl) (hr : 0 ≤ m - n ∧ m - n ≤ 255 := by omega) : TOp P N ⟨d, .binOp .sub t x y u, ty, pos, aft, g⟩ G [] (.pu (pK .u8 (m - n))) := by
  have := t_subK (P := P) (N := N) (d := d) (ty := ty) (pos := pos) (aft := aft) (g := g) (t := t) (u := u) hx hy
  rwa [IntWalk.u8_in _ hr] at this
theorem t_idxT {i : Operand} {ki : IntKind} {n : Int} {t e : TypeId} (hi : topP G i = some (pK ki n) := by rfl) (ht : P.underlying t = some (.array 94 e) := by rfl) {z : List Value} {by' : Nat} (hE : TD P e 1 by' false z) (h0 : 0 ≤ n := by omega) (hn : n.toNat < tbl.length) :
    TOp P N ⟨d, .indexAddr t (.global 0) i, ty, pos, aft, g⟩ G [] (.pu (pPtr (eN .u8) tbl[n.toNat])) := .pure [i] (by simp [Op.operands]) fun {B M w fr} hf => by
  obtain ⟨_, k2, rfl, _⟩ := hf.op hi (by simp)
  have hlt : tbl.length = 94 := rfl
  have hel : P.elem t = e := by simp [Program.elem, ht]
  have hal : P.arrayLen t = 94 := by simp [Program.arrayLen, ht]
  have hr := run_indexAt_array (P := P) (w := w) t ⟨0, 0, none⟩ ki n (by rw [hel, hal]; exact ht)
  rw [hel, hal, if_pos (by omega)] at hr
  have hb : 0 ≤ tbl[n.toNat] ∧ tbl[n.toNat] ≤ 255 := by
    have hall : ∀ x ∈ tbl, 0 ≤ x ∧ x ≤ 255 := by decide
    exact hall _ (List.getElem_mem _)
  refine OP.val (v := .pointer (some ⟨0, n.toNat, none⟩)) (w' := w) (fun a ha => ?_) ⟨rfl, _, rfl, [.int .u8 tbl[n.toNat]], ⟨rfl, (fun e => by cases e), fun _ => hb⟩, fun j c hj => ?_⟩
  · have e0 : a.eval (.global 0) = .pointer (some ⟨0, 0, none⟩) := rfl
    simp only [execOp, ha.eval k2, e0]
    simp [hr, hE.run_sizeOf (w := w), Addr.add_lit]
  · cases j with
    | zero =>
      simp at hj
      subst hj
      rw [Addr.add_lit]
      exact hf.lay.cell n.toNat hn
    | succ j => simp at hj
end ints
end
instance : STc Tryd.prog 9 := ⟨Tryd.underlying9⟩
instance : IKc Tryd.prog 3 .i64 := ⟨Tryd.underlying3⟩
instance : IKc Tryd.prog 5 .u8 := ⟨Tryd.underlying5⟩
instance : IKc Tryd.prog 84 .u32 := ⟨Tryd.underlying84⟩
theorem tdU8 : TD Tryd.prog 5 1 1 false [.int .u8 0] := TD.mk' (z := .int .u8 0) (d := .int .u8) (by kernel_rfl) (by kernel_rfl) rfl
instance : TEc Tryd.prog 5 (eN .u8) := ⟨_, rfl, tdU8⟩
end Go.Proofs.YtedlipgopicijaaDoor
end

section
namespace Go.Proofs.YtedlipgopicijaaDoor
open Go Go.RowKit
def aro (n m : Int) : Int := (if n < 0 then -(n + 1) else n) % m
theorem aro_bd (n m : Int) (h : 1 ≤ m) : 0 ≤ aro n m ∧ aro n m < m := by
  unfold aro
  exact ⟨Int.emod_nonneg _ (by omega), Int.emod_lt_of_pos _ (by omega)⟩
theorem around01 (n m : Int) (w : World) (hn : I64 n) (hm : 1 ≤ m) : CallsV Tryd.prog 9 [.int .i64 n, .int .i64 m] w (fun v w' => v = .int .i64 (aro n m) ∧ w' = w) := by
  unfold I64 at hn
  refine callsV_of_run Tryd.func9 rfl Tryd.ntmps9 (Nat.le_of_ble_eq_true rfl) ?_
  (repeat (first | refine run_seq ?_ | refine run_region_l ?_ | refine rl_nil ?_ | refine rl_step (by decide) (op_move rfl ?_) | refine rl_step (by decide) (op_assign rfl ?_) | refine rl_step (by decide) (op_lss rfl rfl ?_) | fail))
  refine run_if rfl (fun h => ?_) (fun h => ?_)
  · (repeat (first | refine run_seq ?_ | refine run_region_l ?_ | refine rl_nil ?_ | refine rl_step (by decide) (op_move rfl ?_) | refine rl_step (by decide) (op_assign rfl ?_) | refine rl_step (by decide) (op_add rfl rfl (by omega) ?_) | refine rl_step (by decide) (op_neg rfl (by omega) ?_)))
    refine rl_step (by decide) (op_rem rfl rfl (by omega) ?_)
    (repeat (first | refine rl_nil ?_ | refine rl_step (by decide) (op_assign rfl ?_) | fail))
    refine run_ret1 Tryd.func9 rfl rfl ?_
    refine ⟨?_, rfl⟩
    rw [aro, if_pos h, Int.tmod_eq_emod_of_nonneg (by omega)]
  · (repeat (first | refine run_seq ?_ | refine run_region_l ?_ | refine rl_step (by decide) (op_move rfl ?_) | refine run_skip ?_ | fail))
    refine rl_step (by decide) (op_rem rfl rfl (by omega) ?_)
    (repeat (first | refine rl_nil ?_ | refine rl_step (by decide) (op_assign rfl ?_) | fail))
    refine run_ret1 Tryd.func9 rfl rfl ?_
    refine ⟨?_, rfl⟩
    rw [aro, if_neg h, Int.tmod_eq_emod_of_nonneg (by omega)]
end Go.Proofs.YtedlipgopicijaaDoor
end

section
namespace Go.Proofs.YtedlipgopicijaaDoor
def slk (m : Int) (l : List Int) : Int := m + 6 - (l.map (· + 6)).sum
theorem slk_cons (m x : Int) (l : List Int) : slk m (x :: l) = slk (m - (x + 6)) l := by
  unfold slk
  rw [List.map_cons, List.sum_cons]
  omega
theorem slk_nil (m : Int) : slk m [] = m + 6 := by simp [slk]
theorem slk_snoc (m x : Int) (l : List Int) : slk m (l ++ [x]) = slk m l - (x + 6) := by
  unfold slk
  rw [List.map_append, List.sum_append]
  simp
  omega
def okW (w : List Int) : Bool := !(w.any fun x => decide (x < 1) || decide (480 < x))
theorem okW_mem {w : List Int} (h : okW w = true) : ∀ x ∈ w, 1 ≤ x ∧ x ≤ 480 := fun x hx => by
  unfold okW at h
  rw [Bool.not_eq_true', List.any_eq_false] at h
  have := h x hx
  simp at this
  omega
theorem okW_of {w : List Int} (h : ∀ x ∈ w, 1 ≤ x ∧ x ≤ 480) : okW w = true := by
  unfold okW
  rw [Bool.not_eq_true', List.any_eq_false]
  intro x hx
  have := h x hx
  simp
  omega
def chk26 (w : List Int) (m : Int) : Int := if 500 < (w.length : Int) then 2 else if m < 500 ∨ 2000 < m then 5 else if okW w then 0 else 5
theorem chk26_ok {w : List Int} {m : Int} (h : chk26 w m = 0) : w.length ≤ 500 ∧ 500 ≤ m ∧ m ≤ 2000 ∧ ∀ x ∈ w, 1 ≤ x ∧ x ≤ 480 := by
  unfold chk26 at h
  split at h
  · cases h
  · split at h
    · cases h
    · split at h
      · rename_i h1 h2 h3
        exact ⟨by omega, by omega, by omega, okW_mem h3⟩
      · cases h
def ordE (n : Int) : Int → List Int → Bool
  | last, [] => decide (last = n)
  | last, e :: r => decide (last < e) && ordE n e r
def seg (w : List Int) (a b : Int) : List Int := (w.drop a.toNat).take (b.toNat - a.toNat)
def costG (w : List Int) (m : Int) : Int → List Int → Option Int
  | _, [] => some 0
  | a, e :: r => if slk m (seg w a e) < 0 then none else if r = [] then some 0 else (costG w m e r).map fun c => slk m (seg w a e) * slk m (seg w a e) + c
def costM (w : List Int) (m : Int) (ends : List Int) : Int × Int :=
  if chk26 w m ≠ 0 then (0, chk26 w m)
  else if ordE w.length 0 ends then match costG w m 0 ends with
    | some c => (c, 0)
    | none => (0, 9)
  else (0, 12)
def inn (m : Int) : List Int → List (Int × Int) → Int → Int → Int → Int → Int × Int
  | x :: r, t :: T, j, s, c, e =>
    if s - (x + 6) < 0 then (c, e)
    else if r = [] then (0, j)
    else if c < 0 ∨ (s - (x + 6)) * (s - (x + 6)) + t.1 ≤ c then inn m r T (j + 1) (s - (x + 6)) ((s - (x + 6)) * (s - (x + 6)) + t.1) j
    else inn m r T (j + 1) (s - (x + 6)) c e
  | _, _, _, _, c, e => (c, e)
def dpl (m : Int) : List Int → Int → List (Int × Int)
  | [], _ => [(0, 0)]
  | x :: r, i => inn m (x :: r) (dpl m r (i + 1)) (i + 1) (m + 6) (-1) 0 :: dpl m r (i + 1)
theorem dpl_len (m : Int) : ∀ (w : List Int) (i : Int), (dpl m w i).length = w.length + 1
  | [], _ => rfl
  | x :: r, i => by rw [dpl, List.length_cons, dpl_len m r (i + 1), List.length_cons]
theorem dpl_drop (m : Int) : ∀ (w : List Int) (i : Int) (k : Nat), k ≤ w.length → (dpl m w i).drop k = dpl m (w.drop k) (i + k)
  | w, i, 0, _ => by simp
  | [], i, k + 1, h => by simp at h
  | x :: r, i, k + 1, h => by
    rw [dpl, List.drop_succ_cons, List.drop_succ_cons, dpl_drop m r (i + 1) k (by simpa using h)]
    congr 1
    omega
def walkE (D : List (Int × Int)) (n : Int) : Nat → Int → List Int
  | 0, _ => []
  | f + 1, i => if i < n then ((D[i.toNat]?).getD (0, 0)).2 :: walkE D n f ((D[i.toNat]?).getD (0, 0)).2 else []
def endsM (w : List Int) (m : Int) : List Int := walkE (dpl m w 0) w.length (w.length + 1) 0
structure Best (m : Int) (u : List Int) (T : List (Int × Int)) (i : Int) (p : Int × Int) : Prop where
  lo : i < p.2
  hi : p.2 ≤ i + u.length
  fit : 0 ≤ slk m (u.take (p.2 - i).toNat)
  eq : p.1 = if p.2 = i + u.length then 0 else slk m (u.take (p.2 - i).toNat) * slk m (u.take (p.2 - i).toNat) + ((T[(p.2 - i).toNat - 1]?).getD (0, 0)).1
  le : ∀ k : Nat, 0 < k → k ≤ u.length → 0 ≤ slk m (u.take k) → p.1 ≤ (if k = u.length then 0 else slk m (u.take k) * slk m (u.take k) + ((T[k - 1]?).getD (0, 0)).1) ∧
    ((if k = u.length then 0 else slk m (u.take k) * slk m (u.take k) + ((T[k - 1]?).getD (0, 0)).1) = p.1 → i + k ≤ p.2)
end Go.Proofs.YtedlipgopicijaaDoor
end

section
namespace Go.Proofs.YtedlipgopicijaaDoor
theorem slk_take_succ (m : Int) (u : List Int) (k : Nat) (hk : k < u.length) : slk m (u.take (k + 1)) = slk m (u.take k) - (u[k] + 6) := by
  rw [List.take_succ_eq_append_getElem hk, slk_snoc]
theorem slk_anti (m : Int) {u : List Int} (hu : ∀ x ∈ u, 1 ≤ x ∧ x ≤ 480) (k : Nat) : ∀ d, k + d ≤ u.length → slk m (u.take (k + d)) ≤ slk m (u.take k)
  | 0, _ => Int.le_refl _
  | d + 1, h => by
    have h1 := slk_anti m hu k d (by omega)
    have h2 := slk_take_succ m u (k + d) (by omega)
    have h3 := hu _ (List.getElem_mem (show k + d < u.length by omega))
    rw [← Nat.add_assoc]
    omega
def cand (m : Int) (u : List Int) (T : List (Int × Int)) (k : Nat) : Int :=
  if k = u.length then 0 else slk m (u.take k) * slk m (u.take k) + ((T[k - 1]?).getD (0, 0)).1
structure Part (m : Int) (u : List Int) (T : List (Int × Int)) (i : Int) (k : Nat) (c e : Int) : Prop where
  lo : i < e
  hi : e ≤ i + k
  fit : 0 ≤ slk m (u.take (e - i).toNat)
  eq : c = slk m (u.take (e - i).toNat) * slk m (u.take (e - i).toNat) + ((T[(e - i).toNat - 1]?).getD (0, 0)).1
  le : ∀ j : Nat, 0 < j → j ≤ k → c ≤ cand m u T j ∧ (cand m u T j = c → i + j ≤ e)
theorem sq_nonneg (a : Int) : 0 ≤ a * a := by
  rcases Int.le_total 0 a with h | h
  · exact Int.mul_nonneg h h
  · have := Int.mul_nonneg (show 0 ≤ -a by omega) (show 0 ≤ -a by omega)
    rwa [Int.neg_mul_neg] at this
theorem inn_inv (m : Int) (hm : 500 ≤ m) {u : List Int} (hu : ∀ x ∈ u, 1 ≤ x ∧ x ≤ 480) {T : List (Int × Int)} (hT : T.length = u.length) (hT0 : ∀ t ∈ T, 0 ≤ t.1) (i : Int) : ∀ (ws : List Int) (k : Nat) (s c e : Int), ws = u.drop k → ws ≠ [] →
    s = slk m (u.take k) → 0 ≤ s → (k = 0 ∧ c < 0 ∨ 0 < k ∧ 0 ≤ c ∧ Part m u T i k c e) → Best m u T i (inn m ws (T.drop k) (i + k + 1) s c e)
  | [], _, _, _, _, _, hne, _, _, _ => absurd rfl hne
  | x :: r, k, s, c, e, hws, _, hs, hs0, hP => by
    have hk : k < u.length := by
      rcases Nat.lt_or_ge k u.length with h | h
      · exact h
      · rw [List.drop_of_length_le h] at hws; cases hws
    have hx : x = u[k] ∧ r = u.drop (k + 1) := by
      rw [List.drop_eq_getElem_cons hk] at hws
      exact List.cons.inj hws
    obtain ⟨rfl, hr⟩ := hx
    have hTk : T.drop k = T[k] :: T.drop (k + 1) := List.drop_eq_getElem_cons (by omega)
    have hs' := slk_take_succ m u k hk
    have hxr := hu _ (List.getElem_mem hk)
    have hTn := hT0 _ (List.getElem_mem (show k < T.length by omega))
    have hTg : (T[k + 1 - 1]?).getD (0, 0) = T[k] := by simp [show k < T.length by omega]
    rw [hTk, inn]
    split
    · rename_i hneg
      rcases hP with ⟨rfl, _⟩ | ⟨hk0, hc0, hP⟩
      · rw [List.take_zero, slk_nil] at hs
        omega
      · have hP1 := hP.lo
        have hP2 := hP.hi
        refine ⟨hP.lo, by show e ≤ _; omega, hP.fit, by
          show c = _
          rw [if_neg (by show ¬ e = _; omega)]
          exact hP.eq, fun j h1 h2 h3 => ?_⟩
        rcases Nat.lt_or_ge k j with hj | hj
        · have := slk_anti m hu (k + 1) (j - (k + 1)) (by omega)
          rw [show k + 1 + (j - (k + 1)) = j by omega] at this
          omega
        · exact hP.le j h1 hj
    · rename_i hpos
      split
      · rename_i hre
        have hlen : k + 1 = u.length := by
          rw [hre] at hr
          have := congrArg List.length hr
          simp only [List.length_nil, List.length_drop] at this
          omega
        have he : (i + k + 1 - i).toNat = k + 1 := by omega
        refine ⟨by show i < i + k + 1; omega, by show i + k + 1 ≤ _; omega, by show 0 ≤ slk m (u.take (i + k + 1 - i).toNat); rw [he]; omega, by
          show 0 = _
          rw [if_pos (by show i + k + 1 = _; omega)], fun j h1 h2 h3 => ⟨?_, fun _ => by show i + j ≤ i + k + 1; omega⟩⟩
        split
        · exact Int.le_refl _
        · have h4 := sq_nonneg (slk m (u.take j))
          have h5 := hT0 _ (List.getElem_mem (show j - 1 < T.length by omega))
          rw [List.getElem?_eq_getElem (by omega), Option.getD_some]
          show 0 ≤ _
          omega
      · rename_i hre
        have hlen : k + 1 < u.length := by
          rcases Nat.lt_or_ge (k + 1) u.length with h | h
          · exact h
          · exact absurd (hr.trans (List.drop_of_length_le h)) hre
        have hcand : cand m u T (k + 1) = (s - (u[k] + 6)) * (s - (u[k] + 6)) + T[k].1 := by
          unfold cand
          rw [if_neg (by omega), hTg, hs', hs]
        have hsq := sq_nonneg (s - (u[k] + 6))
        have e1 : i + (k : Int) + 1 + 1 = i + ((k + 1 : Nat) : Int) + 1 := by omega
        split
        · rename_i hup
          rw [e1]
          refine inn_inv m hm hu hT hT0 i r (k + 1) _ _ _ hr hre (by rw [hs', hs]) (by omega) (.inr ⟨by omega, by omega, ?_⟩)
          have he : (i + k + 1 - i).toNat = k + 1 := by omega
          refine ⟨by omega, by omega, by rw [he, hs']; omega, by rw [he, hTg, hs', hs], fun j h1 h2 => ?_⟩
          rcases Nat.lt_or_ge k j with hj | hj
          · have : j = k + 1 := by omega
            subst this
            rw [hcand]
            exact ⟨Int.le_refl _, fun _ => by omega⟩
          · rcases hP with ⟨rfl, _⟩ | ⟨hk0, hc0, hP⟩
            · omega
            · have := (hP.le j h1 hj).1
              rcases hup with hup | hup
              · omega
              · exact ⟨by omega, fun _ => by omega⟩
        · rename_i hup
          rw [e1]
          rcases hP with ⟨rfl, hc⟩ | ⟨hk0, hc0, hP⟩
          · exact absurd (.inl hc) hup
          · refine inn_inv m hm hu hT hT0 i r (k + 1) _ _ _ hr hre (by rw [hs', hs]) (by omega) (.inr ⟨by omega, hc0, ?_⟩)
            have hP2 := hP.hi
            refine ⟨hP.lo, by omega, hP.fit, hP.eq, fun j h1 h2 => ?_⟩
            rcases Nat.lt_or_ge k j with hj | hj
            · have : j = k + 1 := by omega
              subst this
              rw [hcand]
              have : ¬ ((s - (u[k] + 6)) * (s - (u[k] + 6)) + T[k].1 ≤ c) := fun hc => hup (.inr hc)
              exact ⟨by omega, fun he => by omega⟩
            · exact hP.le j h1 hj
theorem inn_best (m : Int) (hm : 500 ≤ m) {u : List Int} (hu : ∀ x ∈ u, 1 ≤ x ∧ x ≤ 480) {T : List (Int × Int)} (hT : T.length = u.length) (hT0 : ∀ t ∈ T, 0 ≤ t.1) (i : Int) (hne : u ≠ []) :
    Best m u T i (inn m u T (i + 1) (m + 6) (-1) 0) := by
  have := inn_inv m hm hu hT hT0 i u 0 (m + 6) (-1) 0 rfl hne (by rw [List.take_zero, slk_nil]) (by omega) (.inl ⟨rfl, by omega⟩)
  simpa using this
theorem dpl_nonneg (m : Int) (hm : 500 ≤ m) : ∀ (u : List Int) (i : Int), (∀ x ∈ u, 1 ≤ x ∧ x ≤ 480) → ∀ t ∈ dpl m u i, 0 ≤ t.1
  | [], _, _, t, ht => by simp [dpl] at ht; subst ht; exact Int.le_refl _
  | x :: r, i, hu, t, ht => by
    have ihr := dpl_nonneg m hm r (i + 1) (fun y hy => hu y (by simp [hy]))
    rw [dpl] at ht
    rcases List.mem_cons.1 ht with rfl | ht
    · have hB := inn_best m hm hu (T := dpl m r (i + 1)) (by rw [dpl_len, List.length_cons]) ihr i (by simp)
      rw [hB.eq]
      split
      · exact Int.le_refl _
      · have h1 := sq_nonneg (slk m ((x :: r).take ((inn m (x :: r) (dpl m r (i + 1)) (i + 1) (m + 6) (-1) 0).2 - i).toNat))
        have h2 := hB.lo
        have h3 := hB.hi
        have hl : (dpl m r (i + 1)).length = r.length + 1 := dpl_len m r (i + 1)
        rw [List.length_cons] at h3
        rw [List.getElem?_eq_getElem (by omega), Option.getD_some]
        have := ihr _ (List.getElem_mem (show ((inn m (x :: r) (dpl m r (i + 1)) (i + 1) (m + 6) (-1) 0).2 - i).toNat - 1 < (dpl m r (i + 1)).length by omega))
        omega
    · exact ihr t ht
def at26 (D : List (Int × Int)) (i : Nat) : Int × Int := (D[i]?).getD (0, 0)
theorem at_drop (m : Int) (w : List Int) (a k : Nat) (ha : a ≤ w.length) : at26 (dpl m w 0) (a + k) = at26 (dpl m (w.drop a) a) k := by
  unfold at26
  have h := dpl_drop m w 0 a ha
  rw [Int.zero_add] at h
  rw [← h, List.getElem?_drop]
theorem dpl_best (m : Int) (hm : 500 ≤ m) : ∀ (u : List Int) (i : Int), u ≠ [] → (∀ x ∈ u, 1 ≤ x ∧ x ≤ 480) → Best m u (dpl m u.tail (i + 1)) i (at26 (dpl m u i) 0)
  | [], _, h, _ => absurd rfl h
  | x :: r, i, h, hu => inn_best m hm hu (T := dpl m r (i + 1)) (by rw [dpl_len, List.length_cons]) (dpl_nonneg m hm r (i + 1) fun y hy => hu y (List.mem_cons_of_mem _ hy)) i h
theorem at_best (m : Int) (hm : 500 ≤ m) {w : List Int} (hw : ∀ x ∈ w, 1 ≤ x ∧ x ≤ 480) (a : Nat) (ha : a < w.length) : Best m (w.drop a) (dpl m (w.drop (a + 1)) (a + 1)) a (at26 (dpl m w 0) a) := by
  have h1 := at_drop m w a 0 (by omega)
  rw [Nat.add_zero] at h1
  have h2 := dpl_best m hm (w.drop a) a (fun h => by have := congrArg List.length h; rw [List.length_drop, List.length_nil] at this; omega) (fun x hx => hw x (List.mem_of_mem_drop hx))
  rw [List.tail_drop] at h2
  rw [h1]
  exact h2
theorem cand_at (m : Int) (w : List Int) (a k : Nat) (ha : a < w.length) (hk : 0 < k) : ((dpl m (w.drop (a + 1)) (a + 1))[k - 1]?).getD (0, 0) = at26 (dpl m w 0) (a + k) := by
  have := at_drop m w (a + 1) (k - 1) (by omega)
  rw [show a + 1 + (k - 1) = a + k by omega] at this
  rw [this]
  rfl
theorem seg_take (w : List Int) (a k : Nat) : seg w a ((a + k : Nat) : Int) = (w.drop a).take k := by
  unfold seg
  rw [Int.toNat_natCast, Int.toNat_natCast, Nat.add_sub_cancel_left]
theorem ordE_le {n : Int} : ∀ {l : List Int} {a : Int}, ordE n a l = true → a ≤ n ∧ (l ≠ [] → a < n)
  | [], a, h => by simp [ordE] at h; exact ⟨by omega, fun h => absurd rfl h⟩
  | e :: r, a, h => by
    simp only [ordE, Bool.and_eq_true, decide_eq_true_eq] at h
    have := (ordE_le h.2).1
    exact ⟨by omega, fun _ => by omega⟩
theorem walkE_cons {D : List (Int × Int)} {n : Int} {f a : Nat} (h : (a : Int) < n) : walkE D n (f + 1) a = (at26 D a).2 :: walkE D n f (at26 D a).2 := by
  rw [walkE, if_pos h, Int.toNat_natCast]
  rfl
theorem walk_cost (m : Int) (hm : 500 ≤ m) {w : List Int} (hw : ∀ x ∈ w, 1 ≤ x ∧ x ≤ 480) : ∀ (f a : Nat), a ≤ w.length → w.length < a + f →
    ordE w.length a (walkE (dpl m w 0) w.length f a) = true ∧ (a < w.length → costG w m a (walkE (dpl m w 0) w.length f a) = some (at26 (dpl m w 0) a).1)
  | 0, a, ha, hf => by omega
  | f + 1, a, ha, hf => by
    rcases Nat.eq_or_lt_of_le ha with h | h
    · subst h
      rw [walkE, if_neg (by omega)]
      exact ⟨by simp [ordE], fun h => by omega⟩
    · have hB := at_best m hm hw a h
      have hul : (w.drop a).length = w.length - a := List.length_drop
      have h1 := hB.lo
      have h2 := hB.hi
      rw [walkE_cons (by omega)]
      obtain ⟨k, hk⟩ : ∃ k : Nat, (at26 (dpl m w 0) a).2 = ((a + k : Nat) : Int) := ⟨((at26 (dpl m w 0) a).2 - a).toNat, by omega⟩
      rw [hk]
      obtain ⟨i1, i2⟩ := walk_cost m hm hw f (a + k) (by omega) (by omega)
      refine ⟨by simp only [ordE, Bool.and_eq_true, decide_eq_true_eq]; exact ⟨by omega, i1⟩, fun _ => ?_⟩
      have h3 := hB.fit
      have h4 := hB.eq
      rw [hk] at h3 h4
      rw [show (((a + k : Nat) : Int) - (a : Int)).toNat = k by omega] at h3 h4
      rw [cand_at m w a k h (by omega)] at h4
      rw [costG, seg_take, if_neg (by omega)]
      split
      · rename_i hnil
        have := (walk_cost m hm hw f (a + k) (by omega) (by omega)).1
        rw [hnil] at this
        simp [ordE] at this
        rw [h4, if_pos (by omega)]
      · rename_i hnil
        have hlt : a + k < w.length := by
          rcases Nat.lt_or_ge (a + k) w.length with h | h
          · exact h
          · refine absurd ?_ hnil
            obtain ⟨f, rfl⟩ : ∃ g, f = g + 1 := ⟨f - 1, by omega⟩
            rw [walkE, if_neg (by omega)]
        rw [i2 hlt, Option.map_some, h4, if_neg (by omega)]
end Go.Proofs.YtedlipgopicijaaDoor
end

section
namespace Go.Proofs.YtedlipgopicijaaDoor
open Go Go.RowKit
section
variable {P : Program} {N : Nat} {G : TF} {d : Option Tmp} {ty : TypeId} {pos : String} {aft : Array Edge} {g : Option (Nat × Bool)}
theorem t_callv {f : FuncId} {x : Operand} {args : List Operand} {argT : Array TypeId} {Ps : List Pub} {Q : Pub} (hx : topP G x = some (pv (.func (.func f) #[] #[])) := by rfl) (ha : topPs G args = some Ps := by rfl) (h : Fn P f Ps Q) :
    TOp P N ⟨d, .call ⟨.value x, args.toArray, argT⟩, ty, pos, aft, g⟩ G [] (.pu Q) := .up (x :: args) (by simp [Op.operands, Call.operands]) fun {M0 w0 M w fr} hr hf => by
  obtain ⟨_, k0, rfl⟩ := hf.op hx (by simp)
  obtain ⟨vs, h1, h2⟩ := hf.ops ha (fun t h => by simp [h])
  exact op_callv (cap := []) (R := fun v w' => Q.p M w' v ∧ Below w.heap.size w w') h.ent k0 h1 (by simpa using h.run M w vs hr.mb hf.lay h2) fun v w' hv => ⟨hv.2, hv.1⟩
theorem t_sliceM {α : Type} {E : Enc α} {x lo hi mx : Operand} {l : List α} {t e : TypeId} {k k' k2 : IntKind} {m n : Int} (hx : topP G x = some (pSl E l) := by rfl) (h1 : topP G lo = some (pK k m) := by rfl) (h2 : topP G hi = some (pK k' n) := by rfl) (h3 : topP G mx = some (pK k2 n) := by rfl)
    (ht : USl P t e := by infer_instance) (hE : TEc P e E := by infer_instance) (hb : 0 ≤ m ∧ m ≤ n ∧ n ≤ l.length := by omega) :
    TOp P N ⟨d, .slice t x (some lo) (some hi) (some mx), ty, pos, aft, g⟩ G [] (.pu (pSl E ((l.drop m.toNat).take (n.toNat - m.toNat)))) := .pure [x, lo, hi, mx] (by simp [Op.operands]) fun {B M w fr} hf => by
  obtain ⟨_, k0, k1⟩ := hf.op hx (by simp)
  obtain ⟨_, q1, rfl, _⟩ := hf.op h1 (by simp)
  obtain ⟨_, q2, rfl, _⟩ := hf.op h2 (by simp)
  obtain ⟨_, q3, rfl, _⟩ := hf.op h3 (by simp)
  obtain ⟨a, cap, e1, e2, e3, e4, _⟩ := k1.ex
  obtain ⟨z, hz, hT⟩ := hE.out
  have hcut := k1.cut (lo := m.toNat) (hi := n.toNat) e1 (by omega) (by omega)
  obtain ⟨a2, cap2, f1, f2, f3, f4, f5, f6⟩ := hcut.ex
  have hlen : ((l.drop m.toNat).take (n.toNat - m.toNat)).length = n.toNat - m.toNat := by simp; omega
  have hsl : SlOf E M w (.slice (if n.toNat = m.toNat then a else a.map (·.add (m.toNat * E.sz))) (n.toNat - m.toNat) (n.toNat - m.toNat)) ((l.drop m.toNat).take (n.toNat - m.toNat)) := by
    refine ⟨_, n.toNat - m.toNat, by rw [hlen], by rw [hlen]; omega, by omega, fun h => ?_, f5, fun ad he i hi => ?_⟩
    · split at h
      · omega
      · cases a with
        | none => have := e4 rfl; omega
        | some ad => cases h
    · rw [hlen] at hi
      rw [if_neg (by omega)] at he
      simp only [Value.slice.injEq] at f1
      have hcap : ¬ cap = m.toNat := by omega
      rw [if_neg hcap] at f1
      exact f6 ad (f1.1.symm.trans he) i (by rw [hlen]; exact hi)
  refine OP.val (w' := w) (fun a' ha => ?_) ⟨rfl, hsl⟩
  have b0 : (Instr.sliceBound (.int k2 n) cap .slice3Acap).run P w = .ok n.toNat w := run_bound (by omega)
  have b1 : (Instr.sliceBound (.int k' n) n.toNat .slice3B).run P w = .ok n.toNat w := run_bound (by omega)
  have b2 : (Instr.sliceBound (.int k m) n.toNat .slice3C).run P w = .ok m.toNat w := run_bound (by omega)
  simp only [execOp, ha.eval k0, ha.eval q1, ha.eval q2, ha.eval q3, e1, Option.map_some]
  simp [Instr.sliceAt, Instr.slice, run_underlying ht.out, Instr.sliceBounds, b0, b1, b2, hT.run_sizeOf (w := w)]
end
theorem fitL_consts : ∀ (l : List Int), l.all (inR .i64) = true → ∀ {M : Mut} {w : World} {fr : Fr}, ∃ vs, opvs fr (l.map fun n => Operand.const (.int .i64 n)) = some vs ∧ Vals eI M w vs l
  | [], _, _, _, _ => ⟨[], rfl, trivial⟩
  | n :: l, h, M, w, fr => by
    simp only [List.all_cons, Bool.and_eq_true] at h
    obtain ⟨vs, h1, h2⟩ := fitL_consts l h.2 (M := M) (w := w) (fr := fr)
    have hr := inR_rng h.1
    exact ⟨.int .i64 n :: vs, by simp [opvs, opv, h1], ⟨_, ⟨rfl, hr.1, hr.2⟩, rfl⟩, h2⟩
theorem t_bsI {P : Program} {N : Nat} {G : TF} {d : Option Tmp} {ty : TypeId} {pos : String} {aft : Array Edge} {g : Option (Nat × Bool)} (l : List Int) {t e : TypeId} {n : Nat} {parts : List (Nat × Operand)} (hi : parts.map (·.1) = List.range' 0 n := by rfl)
    (hx : parts.map (·.2) = l.map (fun n => Operand.const (.int .i64 n)) := by rfl) (hr : l.all (inR .i64) = true := by rfl) (ht : USl P t e := by infer_instance) (hE : TEc P e eI := by infer_instance) (hn : n = l.length := by rfl)
    (hb : (l.length * eI.sz ≤ 16777216 ∧ l.length * eI.by_ ≤ 140737488351232) := by exact ⟨Nat.le_of_ble_eq_true rfl, Nat.le_of_ble_eq_true rfl⟩) : TOp P N ⟨d, .buildSlice t n parts.toArray, ty, pos, aft, g⟩ G [] (.pu (pSl eI l)) := .up [] (by simp) fun {M0 w0 M w fr} hrn _ => by
  obtain ⟨vs, h1, h2⟩ := fitL_consts l hr (M := M) (w := w) (fr := fr)
  rw [← hx] at h1
  exact op_buildSlice ht.out hE.out hrn hi h1 h2 hn hb fun v w' k1 _ k2 => ⟨k2, k1⟩
theorem i_len26 {M : Mut} {w : World} {v : Value} {l : List Int} (h : SlOf eI M w v l) : l.length ≤ 17592186044416 := by
  have := h.bytes
  have e : eI.by_ = 8 := rfl
  rw [e] at this
  omega
theorem around_f {n m : Int} (h : 1 ≤ m) : Fn Tryd.prog 9 [pI n, pI m] (pI (aro n m)) := ⟨ent9, fun M w vs _ _ hf => by
  match vs, hf with
  | [u, v], ⟨⟨h1, h2⟩, ⟨h3, h4⟩, _⟩ =>
    subst h1 h3
    have := aro_bd n m h
    have h5 := h4.1 rfl
    unfold I64 at h5
    exact (around01 n m w (h2.1 rfl) h).mono fun u w' ⟨e, e2⟩ => ⟨⟨e, rng64 (by omega)⟩, e2 ▸ Below.refl _ _⟩⟩
def pickM (l : List Int) (i m : Int) : Int := if i < 0 ∨ (l.length : Int) ≤ i then 0 else aro ((l[i.toNat]?).getD 0) m
theorem pickM_bd (l : List Int) (i m : Int) (h : 1 ≤ m) : 0 ≤ pickM l i m ∧ pickM l i m < m := by
  unfold pickM
  split
  · omega
  · exact aro_bd _ _ h
theorem pick_f {l : List Int} {i m : Int} (h : 1 ≤ m) : Fn Tryd.prog 27 [pSl eI l, pI i, pI m] (pI (pickM l i m)) := by
  refine fn_of ent27 Tryd.func27 rfl Tryd.ntmps27 rfl fun M0 w0 => ?_
  unfold pickM
  by_cases h1 : i < 0
  · rw [if_pos (.inl h1)]
    (repeat (first | refine c_seq ?_ | refine c_reg ?_ | refine c_rnil ?_ | refine c_true ?_ | refine c_no ?_ | refine c_op (by first | exact t_move | exact t_assign | exact t_pickT | exact t_lssT | fail) ?_ | fail))
    refine c_ret1 Tryd.func27 rfl ?_
    exact fun h => h
  by_cases h2 : (l.length : Int) ≤ i
  · rw [if_pos (.inr h2)]
    (repeat (first | refine c_seq ?_ | refine c_reg ?_ | refine c_rnil ?_ | refine c_true ?_ | refine c_yes ?_ | refine c_op (by first | exact t_move | exact t_assign | exact t_pickF | exact t_lssF | exact t_geqT | exact t_len | fail) ?_ | fail))
    refine c_ret1 Tryd.func27 rfl ?_
    exact fun h => h
  rw [if_neg (by omega), List.getElem?_eq_getElem (show i.toNat < l.length by omega), Option.getD_some]
  (repeat (first | refine c_seq ?_ | refine c_reg ?_ | refine c_rnil ?_ | refine c_skip ?_ | refine c_false ?_ | refine c_yes ?_ | refine c_op (by first | exact t_call (h := (around_f h)) | exact t_move | exact t_assign | exact t_pickF | exact t_lssF | exact t_geqF | exact t_len | exact t_idx | exact t_load | fail) ?_ | fail))
  refine c_ret1 Tryd.func27 rfl ?_
  exact fun h => h
structure WOK (w : List Int) : Prop where
  len : w.length ≤ 60
  ok : ∀ x ∈ w, 1 ≤ x ∧ x ≤ 480
def measM (n : Int) : Int := if 0 < aro n 3 then 500 + aro n 60 else 500 + aro n 1501
theorem measM_bd (n : Int) : 500 ≤ measM n ∧ measM n ≤ 2000 := by
  unfold measM
  have h1 := aro_bd n 60 (by omega)
  have h2 := aro_bd n 1501 (by omega)
  split <;> omega
theorem width_f {n : Int} : Fn Tryd.prog 10 [pI n] (pI (measM n)) := by
  have h1 := aro_bd n 60 (by omega)
  have h2 := aro_bd n 1501 (by omega)
  refine fn_of ent10 Tryd.func10 rfl Tryd.ntmps10 rfl fun M0 w0 => ?_
  unfold measM
  by_cases h : 0 < aro n 3
  · rw [if_pos h]
    (repeat (first | refine c_seq ?_ | refine c_reg ?_ | refine c_rnil ?_ | refine c_true ?_ | refine c_op (by first | exact t_call (h := (around_f (by omega))) | exact t_move | exact t_assign | exact t_add | exact t_gtrT | fail) ?_ | fail))
    refine c_ret1 Tryd.func10 rfl ?_
    exact fun h => h
  · rw [if_neg h]
    (repeat (first | refine c_seq ?_ | refine c_reg ?_ | refine c_rnil ?_ | refine c_skip ?_ | refine c_false ?_ | refine c_op (by first | exact t_call (h := (around_f (by omega))) | exact t_move | exact t_assign | exact t_add | exact t_gtrF | fail) ?_ | fail))
    refine c_ret1 Tryd.func10 rfl ?_
    exact fun h => h
end Go.Proofs.YtedlipgopicijaaDoor
end

section
namespace Go.Proofs.YtedlipgopicijaaDoor
open Go Go.RowKit
def gw (c : Int) : Int := if c < 33 ∨ 127 ≤ c then 0 else (tbl[(c - 33).toNat]?).getD 0
def bs (s : ByteArray) : List Int := s.data.toList.map fun b => (b.toNat : Int)
def sumG (l : List Int) : Int := (l.map gw).sum
def okG (l : List Int) : Bool := l.all fun c => decide (gw c ≠ 0)
def widM (s : ByteArray) : Int := if 40 < s.size then 0 else if okG (bs s) = true then sumG (bs s) else 0
theorem bs_len (s : ByteArray) : (bs s).length = s.size := by simp [bs]
theorem bs_get (s : ByteArray) (i : Nat) (h : i < s.size) : (bs s)[i]'(by rw [bs_len]; exact h) = ((s[i]'h).toNat : Int) := by
  simp [bs]; rfl
theorem bs_take {s : ByteArray} {i : Nat} (h : i < s.size) : (bs s).take (i + 1) = (bs s).take i ++ [((s[i]'h).toNat : Int)] := by
  rw [List.take_succ_eq_append_getElem (by rw [bs_len]; exact h), bs_get s i h]
theorem sumG_append (a b : List Int) : sumG (a ++ b) = sumG a + sumG b := by simp [sumG]
theorem okG_append (a b : List Int) : okG (a ++ b) = (okG a && okG b) := by simp [okG]
theorem gw_rng (c : Int) : 0 ≤ gw c ∧ gw c ≤ 12 := by
  unfold gw
  split
  · omega
  · cases h : tbl[(c - 33).toNat]? with
    | none => simp
    | some x =>
      have hall : ∀ x ∈ tbl, 0 ≤ x ∧ x ≤ 12 := by decide
      exact hall x (List.mem_of_getElem? h)
theorem sumG_rng : ∀ l : List Int, 0 ≤ sumG l ∧ sumG l ≤ 12 * l.length
  | [] => by simp [sumG]
  | c :: l => by
    have h1 := gw_rng c
    have h2 := sumG_rng l
    have e : sumG (c :: l) = gw c + sumG l := by simp [sumG]
    rw [e]
    simp only [List.length_cons]
    omega
theorem widM_rng (s : ByteArray) : 0 ≤ widM s ∧ widM s ≤ 480 := by
  have h1 := sumG_rng (bs s)
  rw [bs_len] at h1
  unfold widM
  split
  · omega
  · split <;> omega
theorem glyphWidth_f {c : Int} (hc : 0 ≤ c ∧ c ≤ 255) : Fn Tryd.prog 40 [pK .u8 c] (pI (gw c)) := by
  have hlt : tbl.length = 94 := rfl
  refine fn_of ent40 Tryd.func40 rfl Tryd.ntmps40 rfl fun M0 w0 => ?_
  unfold gw
  by_cases h1 : c < 33
  · rw [if_pos (.inl h1)]
    (repeat (first | refine c_seq ?_ | refine c_reg ?_ | refine c_rnil ?_ | refine c_true ?_ | refine c_no ?_ | refine c_op (by first | exact t_move | exact t_assign | exact t_pickT | exact t_lssT | fail) ?_ | fail))
    refine c_ret1 Tryd.func40 rfl ?_
    exact fun h => h
  by_cases h2 : 127 ≤ c
  · rw [if_pos (.inr h2)]
    (repeat (first | refine c_seq ?_ | refine c_reg ?_ | refine c_rnil ?_ | refine c_true ?_ | refine c_yes ?_ | refine c_op (by first | exact (t_cvB) | exact t_move | exact t_assign | exact t_pickF | exact t_lssF | exact t_geqT | fail) ?_ | fail))
    refine c_ret1 Tryd.func40 rfl ?_
    exact fun h => h
  · rw [if_neg (by omega), List.getElem?_eq_getElem (show (c - 33).toNat < tbl.length by omega), Option.getD_some]
    (repeat (first | refine c_seq ?_ | refine c_reg ?_ | refine c_rnil ?_ | refine c_skip ?_ | refine c_false ?_ | refine c_yes ?_ | refine c_op (by first | exact (t_cvB) | exact (t_subB) | exact (t_idxT (ht := Tryd.underlying96) (hE := tdU8) (hn := (by omega))) | exact t_move | exact t_assign | exact t_pickF | exact t_lssF | exact t_geqF | exact t_load | fail) ?_ | fail))
    refine c_ret1 Tryd.func40 rfl ?_
    exact fun h => h
set_option maxHeartbeats 1000000 in
theorem width25_f {s : ByteArray} : Fn Tryd.prog 17 [pS s] (pI (widM s)) := by
  refine fn_of ent17 Tryd.func17 rfl Tryd.ntmps17 rfl fun M0 w0 => ?_
  by_cases h40 : 40 < s.size
  · have e : widM s = 0 := by unfold widM; rw [if_pos h40]
    rw [e]
    (repeat (first | refine c_seq ?_ | refine c_reg ?_ | refine c_rnil ?_ | refine c_true ?_ | refine c_op (by first | exact (t_lenStr) | exact t_move | exact t_assign | exact t_gtrT | fail) ?_ | fail))
    refine c_ret1 Tryd.func17 rfl ?_
    exact fun h => h
  (repeat (first | refine c_seq ?_ | refine c_reg ?_ | refine c_rnil ?_ | refine c_block ?_ | refine c_skip ?_ | refine c_false ?_ | refine c_op (by first | exact (t_lenStr) | exact t_move | exact t_assign | exact t_gtrF | fail) ?_ | fail))
  refine c_loop (fun i : Nat => [(0, .pu (pS s)), (3, .pu (pI (sumG ((bs s).take i)))), (10, .pu (pI s.size)), (11, .pu (pI i))]) (fun i => i ≤ s.size ∧ okG ((bs s).take i) = true) (fun i => s.size - i) 0 ⟨by omega, rfl⟩ (by repeat (first | exact trivial | refine ⟨has_rfl rfl, ?_⟩ | fail)) fun i hi ih => ?_
  obtain ⟨hi, hok⟩ := hi
  have hsum := sumG_rng ((bs s).take i)
  have htl : ((bs s).take i).length = i := by rw [List.length_take, bs_len]; omega
  rw [htl] at hsum
  by_cases hlt : i < s.size
  · have hg := gw_rng ((s[i]'hlt).toNat : Int)
    have hb := (s[i]'hlt).toNat_lt
    by_cases h0 : gw ((s[i]'hlt).toNat : Int) = 0
    · have e : widM s = 0 := by
        unfold widM
        rw [if_neg h40, if_neg]
        intro hc
        unfold okG at hc
        rw [List.all_eq_true] at hc
        have := hc _ (List.getElem_mem (show i < (bs s).length by rw [bs_len]; exact hlt))
        rw [bs_get s i hlt] at this
        simp [h0] at this
      rw [e]
      (repeat (first | refine c_seq ?_ | refine c_reg ?_ | refine c_rnil ?_ | refine c_block ?_ | refine c_skip ?_ | refine c_true ?_ | refine c_op (by first | exact (t_idxStr) | exact t_call (h := (glyphWidth_f (by omega))) | exact t_move | exact t_assign | exact t_lssT | exact t_eqlT | fail) ?_ | fail))
      refine c_ret1 Tryd.func17 rfl ?_
      exact fun h => h
    · (repeat (first | refine c_seq ?_ | refine c_reg ?_ | refine c_rnil ?_ | refine c_block ?_ | refine c_inBlock ?_ | refine c_skip ?_ | refine c_true ?_ | refine c_false ?_ | refine c_op (by first | exact (t_idxStr) | exact t_call (h := (glyphWidth_f (by omega))) | exact t_move | exact t_assign | exact t_add | exact t_lssT | exact t_eqlF | fail) ?_ | fail))
      refine (ih (i + 1) ⟨by omega, ?_⟩ (by omega)).sub ?_
      · rw [bs_take hlt, okG_append, hok]
        simp [okG, h0]
      · have e2 : sumG ((bs s).take (i + 1)) = sumG ((bs s).take i) + gw ((s[i]'hlt).toNat : Int) := by
          rw [bs_take hlt, sumG_append]; simp [sumG]
        rw [e2]
        (repeat' (first | exact trivial | refine ⟨?_, ?_⟩ | fail)) <;> (try first | exact has_rfl rfl | exact has_nil rfl | exact has_nilS rfl | exact has_gr rfl | exact has_nilGo rfl | exact has_int rfl (by first | omega | fail) | fail)
  · have hi2 : i = s.size := by omega
    have htk : (bs s).take i = bs s := by rw [hi2, ← bs_len, List.take_length]
    rw [htk] at hok
    have e : widM s = sumG (bs s) := by unfold widM; rw [if_neg h40, if_pos hok]
    rw [e]
    (repeat (first | refine c_seq ?_ | refine c_reg ?_ | refine c_rnil ?_ | refine c_exit ?_ | refine c_false ?_ | refine c_op (by first | exact t_move | exact t_assign | exact t_lssF | fail) ?_ | fail))
    refine c_ret1 Tryd.func17 rfl ?_
    exact fun h => by rw [htk] at h; exact h
theorem valid25_f {s : ByteArray} : Fn Tryd.prog 56 [pS s] (pB (decide (0 < widM s))) := by
  refine fn_of ent56 Tryd.func56 rfl Tryd.ntmps56 rfl fun M0 w0 => ?_
  (repeat (first | refine c_seq ?_ | refine c_reg ?_ | refine c_rnil ?_ | refine c_op (by first | exact t_call (h := width25_f) | exact t_move | exact t_assign | exact t_gtr | fail) ?_ | fail))
  refine c_ret1 Tryd.func56 rfl ?_
  exact fun h => h
end Go.Proofs.YtedlipgopicijaaDoor
end

section
namespace Go.Proofs.YtedlipgopicijaaDoor
open Go Go.RowKit
def okWd (s : ByteArray) : Prop := 1 ≤ s.size ∧ s.size ≤ 40 ∧ okG (bs s) = true
instance (s : ByteArray) : Decidable (okWd s) := by unfold okWd; infer_instance
end Go.Proofs.YtedlipgopicijaaDoor
end

section
namespace Go.Proofs.YtedlipgopicijaaDoor
open Go Go.RowKit
structure TOpE (P : Program) (N : Nat) (o : Oper) (G : TF) (W : List Nat) {β : Type} (T T' : β → Kd) : Prop where
  out : ∃ xs : List Operand, (∀ x ∈ xs, x ∈ o.op.operands) ∧ ∀ {M0 : Mut} {w0 : World} {M : Mut} {w : World} {fr : Fr}, Rn M0 w0 M w → FitX w0.heap.size M w fr G (fun t => Operand.tmp t ∈ xs) →
    OP P N o fr w (fun v w' => ∃ (x : β) (M' : Mut), StW w0.heap.size W M w M' w' ∧ (T x).V w0.heap.size M' w' v ∧ (T' x).V w0.heap.size M' w' undef)
theorem TOpE.fit {P : Program} {N : Nat} {o : Oper} {G : TF} {W : List Nat} {β : Type} {T T' : β → Kd} (h : TOpE P N o G W T T') {M0 : Mut} {w0 : World} {M : Mut} {w : World} {fr : Fr} (hr : Rn M0 w0 M w) (hf : Fit w0.heap.size M w fr G) :
    OP P N o fr w (fun v w' => ∃ (x : β) (M' : Mut), StW w0.heap.size W M w M' w' ∧ (T x).V w0.heap.size M' w' v ∧ (T' x).V w0.heap.size M' w' undef) := by
  obtain ⟨xs, _, h2⟩ := h.out
  exact h2 hr ⟨hf.lay, fun t T hT _ => hf.out t T hT (.inr trivial)⟩
section
variable {P : Program} {f : FuncId} {N : Nat} {M0 : Mut} {w0 : World} {R : Value → World → Prop} {G : TF} {k : List Item}
variable {ops : Array Oper} {d : Nat} {op : Op} {ty : TypeId} {pos : String} {aft : Array Edge} {rest : List Oper}
theorem c_opE (key : Nat) {W : List Nat} {β : Type} {T T' : β → Kd} (h : TOpE P N ⟨some d, op, ty, pos, aft, none⟩ G W T T') (hk : ∀ x, RLt P f N M0 w0 ops k R rest ((d, T x) :: (key, T' x) :: dropW W G))
    (hg : ∀ x, (T' x).ghost = true := by intro x; rfl) (hd : d < N := by decide) : RLt P f N M0 w0 ops k R (⟨some d, op, ty, pos, aft, none⟩ :: rest) G := ⟨fun hr hf =>
  rl_step hd ((h.fit hr hf).mono fun _ _ ⟨x, _, hs, hv, hv'⟩ => (hk x).out (hr.stw hs) (((hf.after hs).hide (Kd.E_of_V (hg x) hv')).cons hv))⟩
theorem c_gh {todo : List Item} (key key' : Nat) {g : Gh} (T' : Kd) (hs : ∀ {B : Nat} {M : Mut} {w : World}, g.p B M w undef → T'.V B M w undef) (h : Rt P f N M0 w0 todo ((key', T') :: G) R) (ht : tlook G key = some (.gh g) := by rfl) (hg : T'.ghost = true := by rfl) :
    Rt P f N M0 w0 todo G R := ⟨fun hr hf => h.out hr (hf.hide (Kd.E_of_V hg (hs (hf.out key _ ht (.inr trivial)))))⟩
theorem c_gh2 {todo : List Item} (key key2 key' : Nat) {g g2 : Gh} (T' : Kd) (hs : ∀ {B : Nat} {M : Mut} {w : World}, g.p B M w undef → g2.p B M w undef → T'.V B M w undef) (h : Rt P f N M0 w0 todo ((key', T') :: G) R) (ht : tlook G key = some (.gh g) := by rfl) (ht2 : tlook G key2 = some (.gh g2) := by rfl)
    (hg : T'.ghost = true := by rfl) : Rt P f N M0 w0 todo G R := ⟨fun hr hf => h.out hr (hf.hide (Kd.E_of_V hg (hs (hf.out key _ ht (.inr trivial)) (hf.out key2 _ ht2 (.inr trivial)))))⟩
theorem c_gnew {todo : List Item} (key : Nat) (T' : Kd) (hs : ∀ {B : Nat} {M : Mut} {w : World}, T'.V B M w undef) (h : Rt P f N M0 w0 todo ((key, T') :: G) R) (hg : T'.ghost = true := by rfl) : Rt P f N M0 w0 todo G R :=
  ⟨fun hr hf => h.out hr (hf.hide (Kd.E_of_V hg hs))⟩
end
theorem c_join {P : Program} {f : FuncId} {N : Nat} {M0 : Mut} {w0 : World} {R : Value → World → Prop} {G : TF} {todo todo2 : List Item} (F : TF) (h : (∀ {G}, SubT F G → Rt P f N M0 w0 todo2 G R) → Rt P f N M0 w0 todo G R) (h2 : Rt P f N M0 w0 todo2 F R) : Rt P f N M0 w0 todo G R :=
  h fun hs => h2.sub hs
def varG {α : Type} (E : Enc α) (tag : Nat) (e : TypeId) : Gh where
  tags := [tag]
  p := fun B M w v => ∃ (b : Nat) (cs : List Value), v = .pointer (some ⟨b, 0, none⟩) ∧ B ≤ b ∧ cs.length = E.sz ∧ Box M w b tag cs e
  mono := fun ⟨b, cs, h1, h2, h3, h4⟩ hs ht => ⟨b, cs, h1, h2, h3, h4.stw hs (ht _ (by simp))⟩
section
variable {P : Program} {f : FuncId} {N : Nat} {M0 : Mut} {w0 : World} {R : Value → World → Prop} {G : TF} {k : List Item}
variable {ops : Array Oper} {d : Nat} {ty : TypeId} {pos : String} {aft : Array Edge} {rest : List Oper} {g : Option (Nat × Bool)}
theorem t_allocV {α : Type} {E : Enc α} {e : TypeId} (hE : TEc P e E := by infer_instance) : TOp P N ⟨some d, .alloc e, ty, pos, aft, g⟩ G [] (.go (varG E (1000 + d) e)) := ⟨[], by simp, fun {M0 w0 M w fr} hr _ => by
  obtain ⟨z, hz, hT⟩ := hE.out
  exact op_alloc (1000 + d) hr hT fun b w' M' hB hbx hup => ⟨M', StW.up hr.size hup, b, z, rfl, hB, hz, hbx⟩⟩
theorem stV_run {α : Type} {E : Enc α} {M M0 : Mut} {w0 w : World} {fr : Fr} {x y : Operand} {t e tag : Nat} {p : Pub} {x' : α} {v u : Value} {Ψ : Value → World → Prop} {dd : Option Tmp} (hr : Rn M0 w0 M w) (hx : opv fr x = some v) (hv : (varG E tag e).p w0.heap.size M w v)
    (hy : opv fr y = some u) (hu : p.p M w u) (hp : PEc p E x') (hE : TEc P t E)
    (h : ∀ M' w', StW w0.heap.size [tag] M w M' w' → (pPtr E x').p M' w' v → Ψ undef w') : OP P N ⟨dd, .store t x y, ty, pos, aft, g⟩ fr w Ψ := by
  obtain ⟨b, cs, rfl, hB, hlen, hbx⟩ := hv
  obtain ⟨z, hz, hT⟩ := hE.out
  obtain ⟨c, c1, c2⟩ := hp.out hu
  have hcl := E.len c1
  refine op_store hT hx hy (by rw [c2]; exact mkv_cells c1) (E.one c1) hcl hr hB hbx (by omega) fun w' hb' hst => ?_
  have hsp : splice cs 0 c = c := by
    unfold splice
    rw [List.take_zero, List.nil_append, List.drop_of_length_le (by omega), List.append_nil]
  rw [hsp] at hb'
  have hcl2 := St.clear (B := w0.heap.size) (w := w') hB hb'.mark
  have hs := StW.trans (StW.st hst) (StW.st hcl2)
  refine h _ _ hs ⟨_, rfl, c, E.mono c1 hs.x, fun j u hj => ?_⟩
  rw [Addr.add_lit, Nat.zero_add]
  refine ⟨by rw [hb'.cell]; exact hj, fun q hq => by simp [Mut.set] at hq⟩
theorem c_stV {α : Type} {E : Enc α} {s : Nat} {y : Operand} {t e tag : Nat} {p : Pub} {x' : α} (hk : RLt P f N M0 w0 ops k R rest ((s, .pu (pPtr E x')) :: dropW [tag] G)) (hx : tlook G s = some (.go (varG E tag e)) := by rfl) (hy : topP G y = some p := by rfl)
    (hp : PEc p E x' := by infer_instance) (hE : TEc P t E := by infer_instance) : RLt P f N M0 w0 ops k R (⟨none, .store t (.tmp s) y, ty, pos, aft, none⟩ :: rest) G := ⟨fun {M w fr} hr hf => by
  obtain ⟨v, h1, h2⟩ := hf.out s _ hx (.inr trivial)
  obtain ⟨u, h3, h4⟩ := hf.op0 hy (fun _ _ => trivial)
  refine rl_step0 (stV_run hr h1 h2 h3 h4 hp hE fun M' w' hs hv => ?_)
  exact hk.out (hr.stw hs) ((hf.after hs).hide ⟨v, h1, hv⟩)⟩
end
def pSv (b n cap : Nat) : Pub := pv (.slice (some ⟨b, 0, none⟩) n cap)
def RetG {α : Type} (M0 : Mut) (w0 : World) (E : Enc α) (l : List α) (e : TypeId) : Value → World → Prop := fun v w =>
  Below w0.heap.size w0 w ∧ ∀ tag, ∃ M', UpM M0 w0 M' w ∧ SlOf E M' w v l ∧ Grow w0.heap.size M' w v l.length E.sz tag e
structure FnG {α : Type} (P : Program) (g : FuncId) (Ps : List Pub) (E : Enc α) (l : List α) (e : TypeId) : Prop where
  ent : Ent P g
  run : ∀ M w vs, MB M w → Lays M w → FitL M w Ps vs → CallsV P g vs w (RetG M w E l e)
theorem fnG_of {α : Type} {P : Program} {f : FuncId} {N : Nat} {fn : Func} {c : Code} {Ps : List Pub} {E : Enc α} {l : List α} {e : TypeId} (he : Ent P f) (hf : P.funcs[f]? = some fn) (hb : fn.body = some c) (hN : fn.ntmps = N) (hn : Nat.ble Ps.length N = true)
    (h : ∀ M0 w0, Rt P f N M0 w0 [.code c] (argTF 0 Ps) (RetG M0 w0 E l e)) : FnG P f Ps E l e := ⟨he, fun M w vs hm hl hv => by
  have hlen := hv.len
  exact callsV_of_run hf hb hN (by rw [hlen]; exact Nat.le_of_ble_eq_true hn) ((h M w).out (Rn.refl hm) (fit_args hl 0 hv))⟩
theorem Grow.low {B B' : Nat} {M : Mut} {w : World} {v : Value} {n sz tag : Nat} {e : TypeId} (h : Grow B M w v n sz tag e) (hB : B' ≤ B) : Grow B' M w v n sz tag e := by
  rcases h.ex with h | ⟨g, off, cap, cur, h1, h2, h3⟩
  · exact ⟨.inl h⟩
  · exact ⟨.inr ⟨g, off, cap, cur, h1, Nat.le_trans hB h2, h3⟩⟩
theorem t_callG {α : Type} {P : Program} {N : Nat} {G : TF} {d : Option Tmp} {ty : TypeId} {pos : String} {aft : Array Edge} {g : Option (Nat × Bool)} {f : FuncId} {args : List Operand} {argT : Array TypeId} {Ps : List Pub} {E : Enc α} {l : List α} {e : TypeId} (tag : Nat) (h : FnG P f Ps E l e)
    (ha : topPs G args = some Ps := by rfl) : TOp P N ⟨d, .call ⟨.value (.func f), args.toArray, argT⟩, ty, pos, aft, g⟩ G [] (.gr E l tag e) := ⟨args, (by simp [Op.operands, Call.operands]; intro x hx; exact .inr hx), fun {M0 w0 M w fr} hr hf => by
  obtain ⟨vs, h1, h2⟩ := hf.ops ha (fun _ h => h)
  refine op_call h.ent h1 (h.run M w vs hr.mb hf.lay h2) fun v w' ⟨_, hv⟩ => ?_
  obtain ⟨M', k1, k2, k3⟩ := hv tag
  exact ⟨M', StW.up hr.size k1, k2, k3.low hr.size⟩⟩
section
variable {P : Program} {f : FuncId} {N : Nat} {M0 : Mut} {w0 : World} {R : Value → World → Prop} {G : TF} {k : List Item}
variable {ops : Array Oper} {d : Nat} {ty : TypeId} {pos : String} {aft : Array Edge} {rest : List Oper}
theorem c_retGN {α : Type} {E : Enc α} {e : TypeId} {fn : Func} {t : Nat} (hf : P.funcs[f]? = some fn) (hr : fn.results = #[.tmp t]) (hp : topP G (.tmp t) = some (pv (.slice none 0 0)) := by rfl) :
    Rt P f N M0 w0 (.code .ret :: k) G (RetG M0 w0 E ([] : List α) e) := ⟨fun {M w fr} hrn hfit => by
  obtain ⟨v, h1, rfl⟩ := hfit.op0 hp (fun _ _ => trivial)
  exact run_ret1 hf hr h1 ⟨hrn.bel, fun tag => ⟨M0, UpM.of_below hrn.bel, SlOf.nil _ _ _, Grow.nil⟩⟩⟩
theorem c_retG0 {α : Type} {E : Enc α} {e : TypeId} {fn : Func} {t b cap tag : Nat} {cs : List Value} (key : Nat) (hf : P.funcs[f]? = some fn) (hr : fn.results = #[.tmp t]) (hc : cs.length = cap * E.sz) (hm : cap ≤ maxLen) (hp : topP G (.tmp t) = some (pSv b 0 cap) := by rfl) (hg : tlook G key = some (.bx b tag cs e) := by rfl) :
    Rt P f N M0 w0 (.code .ret :: k) G (RetG M0 w0 E ([] : List α) e) := ⟨fun {M w fr} hrn hfit => by
  obtain ⟨v, h1, rfl⟩ := hfit.op0 hp (fun _ _ => trivial)
  obtain ⟨hB, hb⟩ := hfit.out key _ hg (.inr trivial)
  have hlt := hb.lt
  refine run_ret1 hf hr h1 ⟨hrn.bel, fun tag' => ⟨M0.set b (some (0, tag')), ⟨hrn.bel, fun c hc => by unfold Mut.set; rw [if_neg (by omega)], fun hmb c hc => by
    unfold Mut.set
    rw [if_neg (by omega)]
    exact hmb c (Nat.le_trans hrn.bel.size hc)⟩, ⟨some ⟨b, 0, none⟩, cap, rfl, Nat.zero_le _, hm, (fun e => by cases e), by simp, fun _ _ i hi => by simp at hi⟩, ⟨.inr ⟨b, 0, cap, cs.toArray, rfl, hB, hb.heap, Nat.zero_le _, hm, by simp [hc], by simp [Mut.set]⟩⟩⟩⟩⟩
theorem c_appZ {α : Type} {E : Enc α} {x y : Operand} {t tn e : TypeId} {kn k' : IntKind} {n by' : Nat} (tag key : Nat) (htn : P.underlying tn = some (.int kn)) (hk : ∀ b cap cs, n ≤ cap → cap ≤ maxLen → cs.length = cap * E.sz → RLt P f N M0 w0 ops k R rest ((d, .pu (pSv b n cap)) :: (key, .bx b tag cs e) :: G))
    (hx : topP G x = some (pv (.slice none 0 0)) := by rfl) (hy : topP G y = some (pK k' (n : Int)) := by rfl) (ht : USl P t e := by infer_instance) (hE : TEc P e E := by infer_instance) (hb : BYc E by' := by infer_instance)
    (h0 : 0 < n := by omega) (h48 : n * by' ≤ 140737488351232 := by omega) (h63 : n ≤ maxLen := by assumption) (hd : d < N := by decide) :
    RLt P f N M0 w0 ops k R (⟨some d, .call ⟨.builtin .append, #[x, y], #[t, tn]⟩, ty, pos, aft, none⟩ :: rest) G := ⟨fun {M w fr} hr hf => by
  obtain ⟨_, k0, rfl⟩ := hf.op0 hx (fun _ _ => trivial)
  obtain ⟨_, k1, rfl, _⟩ := hf.op0 hy (fun _ _ => trivial)
  obtain ⟨z, hz, hT⟩ := hE.out
  obtain ⟨i, z', hi, hs, hby, hz', hzc⟩ := hT.info
  have hpos := E.pos
  have hrun := Lib.run_append_nil_zeros (P := P) w t tn ty e i z' k' kn ht.out htn hi hz' n h0 (by omega) (by unfold maxLen at h63; omega) (by rw [hby, hb.out]; omega)
  have hcap := grownCap_ge w n 0 e
  have hmax := grownCap_le_maxLen w n 0 e h63
  have hzl : z'.cells.size = E.sz := by rw [hzc]; simpa using hz
  have hcs : (Builtin.zeroCells z'.cells n ++ Builtin.zeroCells z'.cells (grownCap w n 0 e - n)).toList.length = grownCap w n 0 e * E.sz := by
    rw [Array.length_toList, Array.size_append, size_zeroCells, size_zeroCells, hzl, ← Nat.add_mul]
    congr 1
    omega
  have hst := St.alloc (M := M) (w := w) (B := w0.heap.size) hr.size hr.mb (.cells (Builtin.zeroCells z'.cells n ++ Builtin.zeroCells z'.cells (grownCap w n 0 e - n)) e) (some (0, tag))
    (w' := w.drew.alloc (.cells (Builtin.zeroCells z'.cells n ++ Builtin.zeroCells z'.cells (grownCap w n 0 e - n)) e)) rfl rfl rfl rfl
  have hsw : StW w0.heap.size [] M w (M.set w.heap.size (some (0, tag))) (w.drew.alloc (.cells (Builtin.zeroCells z'.cells n ++ Builtin.zeroCells z'.cells (grownCap w n 0 e - n)) e)) :=
    ⟨hst.x, hst.mb, hst.old, hst.bel, fun b p hp _ hb => hst.keep b p hp (by simp) hb⟩
  refine rl_step hd (OP.val (v := .slice (some ⟨w.heap.size, 0, none⟩) n (grownCap w n 0 e)) (w' := w.drew.alloc (.cells (Builtin.zeroCells z'.cells n ++ Builtin.zeroCells z'.cells (grownCap w n 0 e - n)) e))
    (fun a ha => by simp only [execOp, resolve, invoke, builtin, Sem.run_bind, Sem.run_pure, Result.andThen_ok, List.map_toArray, List.map_cons, List.map_nil, ha.eval k0, ha.eval k1, hrun]) ?_)
  refine (hk w.heap.size (grownCap w n 0 e) _ hcap hmax hcs).out (hr.stw hsw) (Fit.cons (T := .pu (pSv w.heap.size n (grownCap w n 0 e))) (Fit.hide (T := .bx w.heap.size tag _ e) (hf.up hsw) ⟨hr.size, ?_, by simp [Mut.set]⟩) rfl)
  rw [Array.toArray_toList]
  exact heap_alloc_new w.drew _⟩
end
section
variable {P : Program} {N : Nat} {G : TF} {d : Option Tmp} {ty : TypeId} {pos : String} {aft : Array Edge} {g : Option (Nat × Bool)}
theorem t_capN {x : Operand} {t e : TypeId} (hx : topP G x = some (pv (.slice none 0 0)) := by rfl) (ht : USl P t e := by infer_instance) :
    TOp P N ⟨d, .call ⟨.builtin .cap, #[x], #[t]⟩, ty, pos, aft, g⟩ G [] (.pu (pI 0)) := .pure [x] (by simp [Op.operands, Call.operands]) fun {B M w fr} hf => by
  obtain ⟨_, h0, rfl⟩ := hf.op hx (by simp)
  exact OP.val (v := .int .i64 0) (fun a ha => by
    simp [execOp, resolve, invoke, builtin, Builtin.cap_, ha.eval h0, run_underlying ht.out, goInt]) ⟨rfl, rfl, rng64 (by omega)⟩
theorem t_sliceNH {α : Type} {E : Enc α} {x hi : Operand} {t e : TypeId} {k : IntKind} (hx : topP G x = some (pv (.slice none 0 0)) := by rfl) (h1 : topP G hi = some (pK k 0) := by rfl)
    (ht : USl P t e := by infer_instance) (hE : TEc P e E := by infer_instance) : TOp P N ⟨d, .slice t x none (some hi) none, ty, pos, aft, g⟩ G [] (.pu (pv (.slice none 0 0))) := .pure [x, hi] (by simp [Op.operands]) fun {B M w fr} hf => by
  obtain ⟨_, k0, rfl⟩ := hf.op hx (by simp)
  obtain ⟨_, k2, rfl, _⟩ := hf.op h1 (by simp)
  obtain ⟨z, hz, hT⟩ := hE.out
  refine OP.val (w' := w) (fun a' ha => ?_) ⟨rfl, rfl⟩
  have b2 : (Instr.sliceBound (.int k 0) 0 .sliceAcap).run P w = .ok 0 w := run_bound (n := 0) (by omega)
  simp only [execOp, ha.eval k0, ha.eval k2, Option.map_some, Option.map_none]
  simp [Instr.sliceAt, Instr.slice, run_underlying ht.out, Instr.sliceBounds, b2, hT.run_sizeOf (w := w)]
theorem t_sliceSH {α : Type} {E : Enc α} {x hi : Operand} {b n cap m : Nat} {t e : TypeId} {k : IntKind} (hx : topP G x = some (pSv b n cap) := by rfl) (h1 : topP G hi = some (pK k (m : Int)) := by rfl)
    (ht : USl P t e := by infer_instance) (hE : TEc P e E := by infer_instance) (hb : m ≤ cap := by omega) : TOp P N ⟨d, .slice t x none (some hi) none, ty, pos, aft, g⟩ G [] (.pu (pSv b m cap)) := .pure [x, hi] (by simp [Op.operands]) fun {B M w fr} hf => by
  obtain ⟨_, k0, rfl⟩ := hf.op hx (by simp)
  obtain ⟨_, k2, rfl, _⟩ := hf.op h1 (by simp)
  obtain ⟨z, hz, hT⟩ := hE.out
  refine OP.val (w' := w) (fun a' ha => ?_) ⟨rfl, rfl⟩
  have b2 : (Instr.sliceBound (.int k (m : Int)) cap .sliceAcap).run P w = .ok m w := run_bound (n := m) (by omega)
  simp only [execOp, ha.eval k0, ha.eval k2, Option.map_some, Option.map_none]
  simp [Instr.sliceAt, Instr.slice, run_underlying ht.out, Instr.sliceBounds, b2, hT.run_sizeOf (w := w), Addr.add]
end
end Go.Proofs.YtedlipgopicijaaDoor
end

section
namespace Go.Proofs.YtedlipgopicijaaDoor
open Go Go.RowKit
theorem tdSSSW : TD Tryd.prog 94 1 24 false [.slice none 0 0] := TD.mk' (z := .slice none 0 0) (d := .slice 23) (by kernel_rfl) (by kernel_rfl) rfl
instance : TEc Tryd.prog 94 (eSl (eSl (eSl eWord))) := ⟨_, rfl, tdSSSW⟩
instance : USl Tryd.prog 94 23 := ⟨Tryd.underlying94⟩
theorem i_len24 {α : Type} {E : Enc α} {M : Mut} {w : World} {v : Value} {l : List (List α)} (h : SlOf (eSl E) M w v l) : l.length ≤ 5864062014805 := by
  have := h.bytes
  have e : (eSl E).by_ = 24 := rfl
  rw [e] at this
  omega
theorem i_len48 {M : Mut} {w : World} {v : Value} {l : List Wd} (h : SlOf eWord M w v l) : l.length ≤ 2932031007403 := by
  have := h.bytes
  have e : eWord.by_ = 48 := rfl
  rw [e] at this
  omega
theorem growW_f {n : Nat} (h48 : n * 24 ≤ 140737488351232) : FnG Tryd.prog 65 [pv (.slice none 0 0), pI n] (eSl eWord) [] 27 := by
  refine fnG_of ent65 Tryd.func65 rfl Tryd.ntmps65 rfl fun M0 w0 => ?_
  have h63 : n ≤ maxLen := by unfold maxLen; omega
  have e0 : ((n : Int) - (0 - 0)) = (n : Nat) := by omega
  by_cases h0 : n = 0
  · subst h0
    (repeat (first | refine c_seq ?_ | refine c_reg ?_ | refine c_rnil ?_ | refine c_skip ?_ | refine c_false ?_ | refine c_op (by first | exact (t_capN) | exact (t_gtrF) | exact t_move | exact t_assign | exact t_sub | exact t_lssF | exact t_lenN | fail) ?_ | fail))
    refine c_retGN Tryd.func65 rfl
  · (repeat (first | refine c_seq ?_ | refine c_reg ?_ | refine c_rnil ?_ | refine c_skip ?_ | refine c_true ?_ | refine c_false ?_ | refine c_op (by first | exact (t_capN) | exact t_move | exact t_assign | exact t_sub | exact t_lssF | exact t_gtrT | exact t_lenN | fail) ?_ | fail))
    refine r_to 1 (.pu (pI (n : Nat))) ?_ ?_
    · exact has_int rfl e0
    (repeat (first | refine (c_appZ 1 100 Tryd.underlying3) ?_ | refine c_op (by first | exact (t_sliceNH) | exact t_move | fail) ?_ | fail))
    intro b cap cs h1 h2 h3
    (repeat (first | refine c_seq ?_ | refine c_reg ?_ | refine c_rnil ?_ | refine c_op (by first | exact (t_sliceSH (m := 0)) | exact t_move | exact t_assign | exact t_lenN | fail) ?_ | fail))
    exact c_retG0 100 Tryd.func65 rfl h3 h2
theorem flatW_take {α : Type} {ls : List (List α)} {i : Nat} (h : i < ls.length) : (ls.take (i + 1)).flatten = (ls.take i).flatten ++ ls[i] := by
  rw [List.take_succ_eq_append_getElem h, List.flatten_append]; simp
theorem flat_le {α : Type} (ls : List (List α)) (i : Nat) : (ls.take i).flatten.length ≤ ls.flatten.length := by
  have : ls.flatten = (ls.take i).flatten ++ (ls.drop i).flatten := by rw [← List.flatten_append, List.take_append_drop]
  rw [this, List.length_append]; omega
set_option maxHeartbeats 1000000 in
theorem concatW_f {ls : List (List (List Wd))} (h48 : ls.flatten.length * 24 ≤ 140737488351232) : Fn Tryd.prog 39 [pSl (eSl (eSl eWord)) ls] (pSl (eSl eWord) ls.flatten) := by
  refine fn_of ent39 Tryd.func39 rfl Tryd.ntmps39 rfl fun M0 w0 => ?_
  refine c_have 0 (fun h => i_len24 h) fun hl => ?_
  (repeat (first | refine c_seq ?_ | refine c_reg ?_ | refine c_rnil ?_ | refine c_block ?_ | refine c_op (by first | exact t_move | exact t_assign | exact t_len | fail) ?_ | fail))
  refine c_loop (fun i : Nat => [(0, .pu (pSl (eSl (eSl eWord)) ls)), (3, .pu (pI (ls.take i).flatten.length)), (9, .pu (pSl (eSl (eSl eWord)) ls)), (10, .pu (pI ls.length)), (11, .pu (pI i))]) (fun i => i ≤ ls.length) (fun i => ls.length - i) 0 (by omega) (by repeat (first | exact trivial | refine ⟨has_rfl rfl, ?_⟩ | fail)) fun i hi ih => ?_
  by_cases hlt : i < ls.length
  · have h1 := flatW_take hlt
    have h2 := flat_le ls (i + 1)
    have h3 : (ls.take (i + 1)).flatten.length = (ls.take i).flatten.length + ls[i].length := by rw [h1, List.length_append]
    (repeat (first | refine c_seq ?_ | refine c_reg ?_ | refine c_rnil ?_ | refine c_block ?_ | refine c_inBlock ?_ | refine c_skip ?_ | refine c_true ?_ | refine c_false ?_ | refine c_op (by first | exact t_move | exact t_assign | exact t_add | exact t_lssT | exact t_lssF | exact t_len | exact t_idxN | exact t_load | fail) ?_ | fail))
    exact (ih (i + 1) (by omega) (by omega)).sub (by repeat (first | exact trivial | refine ⟨has_rfl rfl, ?_⟩ | refine ⟨has_int rfl (by first | omega | fail), ?_⟩))
  · have hfin : (ls.take i).flatten.length = ls.flatten.length := by rw [List.take_of_length_le (by omega)]
    rw [hfin]
    (repeat (first | refine c_seq ?_ | refine c_reg ?_ | refine c_rnil ?_ | refine c_block ?_ | refine c_exit ?_ | refine c_false ?_ | refine c_op (by first | exact (t_callG 1 (growW_f h48)) | exact t_move | exact t_assignG | exact t_lssF | exact t_len | fail) ?_ | fail))
    refine c_loop (fun i : Nat => [(0, .pu (pSl (eSl (eSl eWord)) ls)), (6, .gr (eSl eWord) (ls.take i).flatten 1 27), (25, .pu (pSl (eSl (eSl eWord)) ls)), (26, .pu (pI ls.length)), (27, .pu (pI i))]) (fun i => i ≤ ls.length) (fun i => ls.length - i) 0 (by omega) (by repeat (first | exact trivial | refine ⟨has_rfl rfl, ?_⟩ | fail)) fun i hi ih => ?_
    by_cases hlt : i < ls.length
    · have h1 := flatW_take hlt
      have h2 := flat_le ls (i + 1)
      have h3 : (ls.take (i + 1)).flatten.length = (ls.take i).flatten.length + ls[i].length := by rw [h1, List.length_append]
      (repeat (first | refine c_seq ?_ | refine c_reg ?_ | refine c_rnil ?_ | refine c_block ?_ | refine c_inBlock ?_ | refine c_skip ?_ | refine c_true ?_ | refine c_op (by first | exact t_moveG | exact t_move | exact t_assignG | exact t_assign | exact t_add | exact t_lssT | exact t_idxN | exact t_load | fail) ?_ | refine c_opW t_app ?_ | fail))
      refine (ih (i + 1) (by omega) (by omega)).sub ?_
      rw [h1]
      (repeat' (first | exact trivial | refine ⟨?_, ?_⟩ | fail)) <;> (try first | exact has_rfl rfl | exact has_nil rfl | exact has_nilS rfl | exact has_gr rfl | exact has_nilGo rfl | exact has_int rfl (by first | omega | fail) | fail)
    · (repeat (first | refine c_seq ?_ | refine c_reg ?_ | refine c_rnil ?_ | refine c_exit ?_ | refine c_false ?_ | refine c_op (by first | exact t_moveG | exact t_assignG | exact t_lssF | fail) ?_ | fail))
      refine c_ret1 Tryd.func39 rfl ?_
      exact fun h => by rw [List.take_of_length_le (show ls.length ≤ i by omega)] at h; exact h
def idxQ (q : List Wd → Bool) : List (List Wd) → Int → Int
  | [], _ => -1
  | x :: r, i => if q x then i else idxQ q r (i + 1)
theorem idxQ_any {q : List Wd → Bool} : ∀ (l : List (List Wd)) (i : Int), 0 ≤ i → (0 ≤ idxQ q l i ↔ l.any q = true)
  | [], i, _ => by simp [idxQ]
  | x :: r, i, h => by
    simp only [idxQ, List.any_cons, Bool.or_eq_true]
    split
    · rename_i hp; simp [hp, h]
    · rename_i hp; rw [idxQ_any r (i + 1) (by omega)]; simp [hp]
theorem indexQ_f {f : FuncId} {q : List Wd → Bool} (hq : ∀ p, Fn Tryd.prog f [pSl eWord p] (pB (q p))) {l : List (List Wd)} : Fn Tryd.prog 80 [pSl (eSl eWord) l, pv (.func (.func f) #[] #[])] (pI (idxQ q l 0)) := by
  refine fn_of ent80 Tryd.func80 rfl Tryd.ntmps80 rfl fun M0 w0 => ?_
  refine c_have 0 (fun h => i_len24 h) fun hl => ?_
  obtain ⟨r, hr⟩ : ∃ r, r = idxQ q l 0 := ⟨_, rfl⟩
  rw [← hr]
  (repeat (first | refine c_seq ?_ | refine c_reg ?_ | refine c_rnil ?_ | refine c_block ?_ | refine c_op (by first | exact t_move | exact t_assign | exact t_len | fail) ?_ | fail))
  refine c_loop (fun i : Nat => [(0, .pu (pSl (eSl eWord) l)), (1, .pu (pv (.func (.func f) #[] #[]))), (7, .pu (pI l.length)), (8, .pu (pI i))]) (fun i => i ≤ l.length ∧ r = idxQ q (l.drop i) i) (fun i => l.length - i) 0 ⟨by omega, hr⟩ (by repeat (first | exact trivial | refine ⟨has_rfl rfl, ?_⟩ | fail)) fun i ⟨hi, hri⟩ ih => ?_
  by_cases hlt : i < l.length
  · rw [List.drop_eq_getElem_cons hlt] at hri
    simp only [idxQ] at hri
    cases hp : q l[i]
    · have hp' : Fn Tryd.prog f [pSl eWord l[i]] (pB false) := hp ▸ hq l[i]
      simp only [hp, Bool.false_eq_true, if_false] at hri
      (repeat (first | refine c_seq ?_ | refine c_reg ?_ | refine c_rnil ?_ | refine c_block ?_ | refine c_inBlock ?_ | refine c_skip ?_ | refine c_true ?_ | refine c_false ?_ | refine c_op (by first | exact (t_callv (h := hp')) | exact t_move | exact t_assign | exact t_add | exact t_lssT | exact t_idxN | exact t_load | fail) ?_ | fail))
      exact (ih (i + 1) ⟨by omega, hri⟩ (by omega)).sub (by repeat (first | exact trivial | refine ⟨has_rfl rfl, ?_⟩ | fail))
    · have hp' : Fn Tryd.prog f [pSl eWord l[i]] (pB true) := hp ▸ hq l[i]
      simp only [hp, if_true] at hri
      (repeat (first | refine c_seq ?_ | refine c_reg ?_ | refine c_rnil ?_ | refine c_block ?_ | refine c_skip ?_ | refine c_true ?_ | refine c_op (by first | exact (t_callv (h := hp')) | exact t_move | exact t_assign | exact t_lssT | exact t_idxN | exact t_load | fail) ?_ | fail))
      refine c_ret1 Tryd.func80 rfl ?_
      exact fun h => by rw [hri]; exact h
  · rw [List.drop_of_length_le (by omega)] at hri
    simp only [idxQ] at hri
    rw [hri]
    (repeat (first | refine c_seq ?_ | refine c_reg ?_ | refine c_rnil ?_ | refine c_exit ?_ | refine c_false ?_ | refine c_op (by first | exact t_assign | exact t_lssF | fail) ?_ | fail))
    refine c_ret1 Tryd.func80 rfl ?_
    exact fun h => h
theorem containsQ_f {f : FuncId} {q : List Wd → Bool} (hq : ∀ p, Fn Tryd.prog f [pSl eWord p] (pB (q p))) {l : List (List Wd)} : Fn Tryd.prog 53 [pSl (eSl eWord) l, pv (.func (.func f) #[] #[])] (pB (l.any q)) := by
  refine fn_of ent53 Tryd.func53 rfl Tryd.ntmps53 rfl fun M0 w0 => ?_
  have e : l.any q = decide (0 ≤ idxQ q l 0) := by rw [Bool.eq_iff_iff, decide_eq_true_eq]; exact (idxQ_any l 0 (by omega)).symm
  rw [e]
  (repeat (first | refine c_seq ?_ | refine c_reg ?_ | refine c_rnil ?_ | refine c_op (by first | exact t_call (h := (indexQ_f hq)) | exact t_move | exact t_assign | exact t_geq | fail) ?_ | fail))
  refine c_ret1 Tryd.func53 rfl ?_
  exact fun h => h
theorem long_f {p : List Wd} : Fn Tryd.prog 54 [pSl eWord p] (pB (decide (500 < p.length))) := by
  refine fn_of ent54 Tryd.func54 rfl Tryd.ntmps54 rfl fun M0 w0 => ?_
  have e : decide (500 < p.length) = decide ((500 : Int) < p.length) := decide_eq_decide.2 (by omega)
  rw [e]
  (repeat (first | refine c_seq ?_ | refine c_reg ?_ | refine c_rnil ?_ | refine c_op (by first | exact t_move | exact t_assign | exact t_gtr | exact t_len | fail) ?_ | fail))
  refine c_ret1 Tryd.func54 rfl ?_
  exact fun h => h
theorem none_f {p : List Wd} : Fn Tryd.prog 55 [pSl eWord p] (pB (decide (p.length = 0))) := by
  refine fn_of ent55 Tryd.func55 rfl Tryd.ntmps55 rfl fun M0 w0 => ?_
  have e : decide (p.length = 0) = decide ((p.length : Int) = 0) := decide_eq_decide.2 (by omega)
  rw [e]
  (repeat (first | refine c_seq ?_ | refine c_reg ?_ | refine c_rnil ?_ | refine c_op (by first | exact t_move | exact t_assign | exact t_eql | exact t_len | fail) ?_ | fail))
  refine c_ret1 Tryd.func55 rfl ?_
  exact fun h => h
end Go.Proofs.YtedlipgopicijaaDoor
end

section
namespace Go.Proofs.YtedlipgopicijaaDoor
open Go Go.RowKit
def emp : ByteArray := ⟨#[]⟩
def wErr (w : Wd) (next n : Int) : Int :=
  if ¬ 0 < widM w.s ∨ (w.key ≠ emp ∧ ¬ 0 < widM w.key) then 7
  else if w.table ≠ 0 ∧ w.table ≠ 1 then 5
  else if w.note ≠ 0 ∧ (w.note ≠ next ∨ n < w.note) then 5 else 0
def chkP (n : Int) (k : Int → Int) : List Wd → Int → Int
  | [], next => k next
  | w :: r, next => if wErr w next n ≠ 0 then wErr w next n else chkP n k r (if w.note ≠ 0 then next + 1 else next)
def chkA (n : Int) (k : Int → Int) : List (List Wd) → Int → Int
  | [], next => k next
  | p :: r, next => chkP n (chkA n k r) p next
def chkQ (k : Int) : List Wd → Int
  | [] => k
  | w :: r => if wErr w 0 0 ≠ 0 then wErr w 0 0 else chkQ k r
def chkB (k : Int) : List (List Wd) → Int
  | [] => k
  | p :: r => chkQ (chkB k r) p
def longP (l : List (List Wd)) : Bool := l.any fun p => decide (500 < p.length)
def noneP (l : List (List Wd)) : Bool := l.any fun p => decide (p.length = 0)
def sizeM (t : Tx) : Int :=
  if 100 < t.paras.length ∨ 100 < t.notes.length then 2
  else if longP (t.paras ++ t.notes) = true then 2
  else if noneP (t.paras ++ t.notes) = true then 1 else 0
def lastK (n : Nat) (next : Int) : Int := if next ≠ n + 1 then 3 else 0
def chkT (t : Tx) : Int := if sizeM t ≠ 0 then sizeM t else chkA t.notes.length (fun next => chkB (lastK t.notes.length next) t.notes) t.paras 1
theorem size_ok {t : Tx} (h : sizeM t = 0) : t.paras.length ≤ 100 ∧ t.notes.length ≤ 100 ∧ ∀ p ∈ t.paras ++ t.notes, 1 ≤ p.length ∧ p.length ≤ 500 := by
  unfold sizeM at h
  split at h
  · cases h
  · split at h
    · cases h
    · split at h
      · cases h
      · rename_i h1 h2 h3
        refine ⟨by omega, by omega, fun p hp => ?_⟩
        unfold longP at h2
        unfold noneP at h3
        simp only [List.any_eq_true, not_exists, decide_eq_true_eq, not_and] at h2 h3
        have := h2 p hp
        have := h3 p hp
        omega
end Go.Proofs.YtedlipgopicijaaDoor
end

section
namespace Go.Proofs.YtedlipgopicijaaDoor
open Go Go.RowKit
theorem GrowS.stw0 {B B' : Nat} {M M' : Mut} {w w' : World} {v : Value} {n sz tag : Nat} {e : TypeId} {W : List Nat} (h : GrowS B M w v n sz tag e) (s : StW B' W M w M' w') (ht : tag ∉ W) : GrowS B M' w' v n sz tag e := by
  obtain ⟨g, off, cap, cur, k1, k2, k3, k4, k5, k6, k7⟩ := h.ex
  obtain ⟨q1, q2⟩ := s.keep g _ k7 ht (Array.getElem?_eq_some_iff.1 k3).1
  exact ⟨⟨g, off, cap, cur, k1, k2, q2.trans k3, k4, k5, k6, q1⟩⟩
def grs {α : Type} (E : Enc α) (l : List α) (tag : Nat) (e : TypeId) : Gh where
  tags := [tag]
  p := fun B M w v => SlOf E M w v l ∧ ((v = .slice none 0 0 ∧ l = []) ∨ GrowS B M w v l.length E.sz tag e)
  mono := fun ⟨h1, h2⟩ hs ht => ⟨h1.mono hs.x, h2.imp id fun h => h.stw0 hs (ht _ (by simp))⟩
section
variable {P : Program} {N : Nat} {G : TF} {d : Option Tmp} {ty : TypeId} {pos : String} {aft : Array Edge} {g : Option (Nat × Bool)}
theorem t_moveGo {gh : Gh} {t : Nat} (hx : tlook G t = some (.go gh) := by rfl) : TOp P N ⟨d, .move (.tmp t), ty, pos, aft, g⟩ G [] (.go gh) :=
  ⟨[.tmp t], by simp [Op.operands], fun {M0 w0 M w fr} hr hf => by
    obtain ⟨v, h1, h2⟩ := hf.out t _ hx (.inr (by simp))
    exact op_move h1 ⟨M, StW.refl _ _ _, h2⟩⟩
theorem t_assignGo {gh : Gh} {t : Nat} (hx : tlook G t = some (.go gh) := by rfl) : TOp P N ⟨d, .assign (.tmp t), ty, pos, aft, g⟩ G [] (.go gh) :=
  ⟨[.tmp t], by simp [Op.operands], fun {M0 w0 M w fr} hr hf => by
    obtain ⟨v, h1, h2⟩ := hf.out t _ hx (.inr (by simp))
    exact op_assign h1 ⟨M, StW.refl _ _ _, h2⟩⟩
theorem t_appS {α : Type} {E : Enc α} {y : Operand} {s tag by' : Nat} {l l2 : List α} {t e : TypeId} (hx : tlook G s = some (.go (grs E l tag e)) := by rfl) (hy : topP G y = some (pSl E l2) := by rfl)
    (ht : USl P t e := by infer_instance) (hE : TEc P e E := by infer_instance) (hb : BYc E by' := by infer_instance) (h0 : l2.length ≠ 0 := by simp)
    (hl : (l.length + l2.length) * by' ≤ 140737488351232 := by first | omega | (simp only [List.length_append, List.length_cons, List.length_nil]; omega)) :
    TOp P N ⟨d, .call ⟨.builtin .append, #[.tmp s, y], #[t, t]⟩, ty, pos, aft, g⟩ G [tag] (.go (grs E (l ++ l2) tag e)) := ⟨[.tmp s, y], by simp [Op.operands, Call.operands], fun {M0 w0 M w fr} hr hf => by
  obtain ⟨v, k0, k1, k2⟩ := hf.out s _ hx (.inr (by simp))
  obtain ⟨u, k3, k4⟩ := hf.op hy (by simp)
  have hg : Grow w0.heap.size M w v l.length E.sz tag e := by
    rcases k2 with ⟨rfl, rfl⟩ | h
    · exact Grow.nil
    · exact h.grow
  exact op_appendS ht.out hE.out k0 k3 hr k1 hg k4 (by rw [hb.out]; exact hl) h0 fun v' w' M' h1 h2 h3 => ⟨M', StW.st h3, h1, .inr h2⟩⟩
end
theorem has_nilGo {G : TF} {t : Nat} {α : Type} {E : Enc α} {tag : Nat} {e : TypeId} (h : tlook G t = some (.pu (pv (.slice none 0 0)))) : Has G t (.go (grs E [] tag e)) := fun hf => by
  obtain ⟨v, h1, rfl⟩ := hf.out t _ h (.inr trivial)
  exact ⟨_, h1, SlOf.nil _ _ _, .inl ⟨rfl, rfl⟩⟩
theorem wordR_flat {M M' : Mut} {w w' : World} {cs : List Value} {x : Wd} (h : eWord.R M w cs x) : eWord.R M' w' cs x := h
theorem cssW_flat {M M' : Mut} {w w' : World} : ∀ {l : List Wd} {css : List Value}, CSS eWord M w css l → CSS eWord M' w' css l
  | [], _, h => h
  | _ :: _, _, ⟨a, b, h1, h2, h3⟩ => ⟨a, b, h1, wordR_flat h2, cssW_flat h3⟩
structure RowD where
  b : Nat
  off : Nat
  cap : Nat
  ws : List Wd
def RowD.v (r : RowD) : Value := .slice (some ⟨r.b, r.off, none⟩) r.ws.length r.cap
structure RowAt (w : World) (r : RowD) : Prop where
  len : r.ws.length ≤ r.cap
  cap : r.cap ≤ maxLen
  by_ : r.ws.length * 48 ≤ 140737488351232
  ex : ∃ pre css rest : List Value, pre.length = r.off ∧ CSS eWord (fun _ => none) w css r.ws ∧ w.heap[r.b]? = some (.cells (pre ++ css ++ rest).toArray 29 (0, 0))
theorem RowAt.lt {w : World} {r : RowD} (h : RowAt w r) : r.b < w.heap.size := by
  obtain ⟨_, _, _, _, _, h⟩ := h.ex
  exact (Array.getElem?_eq_some_iff.1 h).1
theorem RowAt.same {w w' : World} {r : RowD} (h : RowAt w r) (e : w'.heap[r.b]? = w.heap[r.b]?) : RowAt w' r := by
  obtain ⟨pre, css, rest, h1, h2, h3⟩ := h.ex
  exact ⟨h.len, h.cap, h.by_, pre, css, rest, h1, cssW_flat h2, e.trans h3⟩
theorem RowAt.sl {w : World} {r : RowD} (h : RowAt w r) {M : Mut} (hM : M r.b = none) : SlOf eWord M w r.v r.ws := by
  obtain ⟨pre, css, rest, h1, h2, h3⟩ := h.ex
  refine SlOf.of_row_at (css := css) (cssW_flat h2) h3 ?_ h.len h.cap h.by_ (fun p hp => by rw [hM] at hp; cases hp)
  have e4 : eWord.sz = 4 := rfl
  have hl := h2.len
  rw [← hl, ← h1]
  simp only [List.append_assoc, List.drop_left]
  exact List.take_left
structure RowOk (B : Nat) (M : Mut) (w : World) (tag : Nat) (r : RowD) : Prop where
  ge : B ≤ r.b
  at_ : RowAt w r
  mark : M r.b = some (0, tag)
theorem RowOk.stw {B B' : Nat} {M M' : Mut} {w w' : World} {W : List Nat} {tag : Nat} {r : RowD} (h : RowOk B M w tag r) (hs : StW B' W M w M' w') (ht : tag ∉ W) : RowOk B M' w' tag r := by
  obtain ⟨q1, q2⟩ := hs.keep r.b _ h.mark ht h.at_.lt
  exact ⟨h.ge, h.at_.same q2, q1⟩
def rowG (tag : Nat) (ws : List Wd) (avoid : List Nat) : Gh where
  tags := [tag]
  p := fun B M w v => ∃ r : RowD, r.ws = ws ∧ v = r.v ∧ RowOk B M w tag r ∧ r.b ∉ avoid
  mono := fun ⟨r, h1, h2, h3, h4⟩ hs ht => ⟨r, h1, h2, h3.stw hs (ht _ (by simp)), h4⟩
def row1G (tag : Nat) (r : RowD) : Gh where
  tags := [tag]
  p := fun B M w _ => RowOk B M w tag r
  mono := fun h hs ht => h.stw hs (ht _ (by simp))
def rowsG (tag : Nat) (rows : List RowD) : Gh where
  tags := [tag]
  p := fun B M w _ => (∀ r ∈ rows, RowOk B M w tag r) ∧ (rows.map RowD.b).Nodup
  mono := fun ⟨h1, h2⟩ hs ht => ⟨fun r hr => (h1 r hr).stw hs (ht _ (by simp)), h2⟩
theorem rows_snoc {tag : Nat} {rows : List RowD} {r : RowD} (hn : r.b ∉ rows.map RowD.b) {B : Nat} {M : Mut} {w : World} (h : (rowsG tag rows).p B M w undef) (h2 : (row1G tag r).p B M w undef) : (Kd.gh (rowsG tag (rows ++ [r]))).V B M w undef := by
  refine ⟨fun x hx => ?_, ?_⟩
  · rcases List.mem_append.1 hx with hx | hx
    · exact h.1 x hx
    · rw [List.mem_singleton.1 hx]; exact h2
  · rw [List.map_append, List.nodup_append]
    refine ⟨h.2, by simp, fun a ha b hb e => ?_⟩
    simp only [List.map_cons, List.map_nil, List.mem_singleton] at hb
    subst hb e
    exact hn ha
def eRaw : Enc Value where
  sz := 1
  by_ := 24
  agg := false
  R := fun _ _ cs v => cs = [v] ∧ ∃ a n c, v = .slice a n c
  pos := by decide
  bpos := by decide
  one1 := fun _ => rfl
  len := fun h => by rw [h.1]; rfl
  one := fun ⟨h, a, n, c, e⟩ u hu => by rw [h] at hu; simp at hu; subst hu e; rfl
  mono := fun h _ => h
theorem teRaw : TEc Tryd.prog 27 eRaw := ⟨_, rfl, tdSW⟩
instance : BYc eRaw 24 := ⟨rfl⟩
theorem ldRaw : LDc eRaw pv := ⟨fun {M w v x} ⟨cs, ⟨h1, _⟩, h⟩ => by subst h1; exact h⟩
theorem rows_read {M M' : Mut} {w : World} {v : Value} {rows : List RowD} (h : SlOf eRaw M w v (rows.map RowD.v)) (hx : X M w M' w) (hr : ∀ r ∈ rows, RowAt w r ∧ M' r.b = none) : SlOf (eSl eWord) M' w v (rows.map RowD.ws) := by
  obtain ⟨a, cap, h1, h2, h3, h4, h5, h6⟩ := h.ex
  have hl : (rows.map RowD.v).length = (rows.map RowD.ws).length := by simp
  refine ⟨a, cap, by rw [← hl]; exact h1, by rw [← hl]; exact h2, h3, h4, by rw [← hl]; exact h5, fun ad e i hi => ?_⟩
  have hi' : i < rows.length := by simpa using hi
  obtain ⟨cs, ⟨c1, _⟩, c2⟩ := h6 ad e i (by rw [hl]; exact hi)
  have hmem : rows[i] ∈ rows := List.getElem_mem hi'
  refine ⟨cs, ⟨_, c1, ?_⟩, fun j c hc => hx.cell _ _ (c2 j c hc)⟩
  simp only [List.getElem_map]
  exact (hr _ hmem).1.sl (hr _ hmem).2
def RetO (w0 : World) (ws : List Wd) : Value → World → Prop := fun v w => Below w0.heap.size w0 w ∧ ∃ r : RowD, r.ws = ws ∧ v = r.v ∧ w0.heap.size ≤ r.b ∧ RowAt w r
structure FnO (P : Program) (g : FuncId) (Ps : List Pub) (ws : List Wd) : Prop where
  ent : Ent P g
  run : ∀ M w vs, MB M w → Lays M w → FitL M w Ps vs → CallsV P g vs w (RetO w ws)
theorem fnO_of {P : Program} {f : FuncId} {N : Nat} {fn : Func} {c : Code} {Ps : List Pub} {ws : List Wd} (he : Ent P f) (hf : P.funcs[f]? = some fn) (hb : fn.body = some c) (hN : fn.ntmps = N) (hn : Nat.ble Ps.length N = true)
    (h : ∀ M0 w0, Rt P f N M0 w0 [.code c] (argTF 0 Ps) (RetO w0 ws)) : FnO P f Ps ws := ⟨he, fun M w vs hm hl hv => by
  have hlen := hv.len
  exact callsV_of_run hf hb hN (by rw [hlen]; exact Nat.le_of_ble_eq_true hn) ((h M w).out (Rn.refl hm) (fit_args hl 0 hv))⟩
theorem c_retO {P : Program} {f : FuncId} {N : Nat} {M0 : Mut} {w0 : World} {G : TF} {k : List Item} {l : List Wd} {tag : Nat} {fn : Func} {t : Nat} (hf : P.funcs[f]? = some fn) (hr : fn.results = #[.tmp t]) (hne : l ≠ []) (hp : tlook G t = some (.go (grs eWord l tag 29)) := by rfl) :
    Rt P f N M0 w0 (.code .ret :: k) G (RetO w0 l) := ⟨fun {M w fr} hrn hfit => by
  obtain ⟨v, h1, h2, h3⟩ := hfit.out t _ hp (.inr trivial)
  rcases h3 with ⟨_, h3⟩ | h3
  · exact absurd h3 hne
  obtain ⟨g, off, cap, cur, k1, k2, k3, k4, k5, k6, k7⟩ := h3.ex
  obtain ⟨a, cap', f1, f2, f3, f4, f5, f6⟩ := h2.ex
  subst k1
  cases f1
  obtain ⟨css, c1, c2⟩ := CSS.of_elems (f6 _ rfl)
  have e4 : eWord.sz = 4 := rfl
  have hcl := c1.len
  have hcss : css = (cur.toList.drop off).take (l.length * eWord.sz) := by
    apply List.ext_getElem?
    intro j
    rcases Nat.lt_or_ge j css.length with hj | hj
    · have hcell := c2 j _ (List.getElem?_eq_getElem hj)
      rw [Addr.add_lit] at hcell
      have := hcell.1
      rw [cell_of_row w g _ cur 29 (0, 0) k3] at this
      rw [List.getElem?_eq_getElem hj, List.getElem?_take, if_pos (by rw [← hcl]; exact hj), List.getElem?_drop]
      simpa using this.symm
    · rw [List.getElem?_eq_none hj, List.getElem?_eq_none]
      simp
      omega
  refine run_ret1 hf hr h1 ⟨hrn.bel, ⟨g, off, cap, l⟩, rfl, rfl, k2, k4, k5, f5, cur.toList.take off, css, cur.toList.drop (off + l.length * eWord.sz), ?_, cssW_flat c1, ?_⟩
  · rw [List.length_take, Array.length_toList]
    exact Nat.min_eq_left (by rw [k6]; exact Nat.le_add_right _ _)
  · have : cur.toList.take off ++ css ++ cur.toList.drop (off + l.length * eWord.sz) = cur.toList := by
      rw [hcss, List.append_assoc, ← List.drop_drop, List.take_append_drop, List.take_append_drop]
    rw [this]
    simpa using k3⟩
section
variable {P : Program} {N : Nat} {G : TF} {d : Option Tmp} {ty : TypeId} {pos : String} {aft : Array Edge} {g : Option (Nat × Bool)}
theorem t_callO {f : FuncId} {args : List Operand} {argT : Array TypeId} {Ps : List Pub} {ws : List Wd} {rows : List RowD} {tag : Nat} (key : Nat) (h : FnO P f Ps ws) (ha : topPs G args = some Ps := by rfl) (hg : tlook G key = some (.gh (rowsG tag rows)) := by rfl) :
    TOp P N ⟨d, .call ⟨.value (.func f), args.toArray, argT⟩, ty, pos, aft, g⟩ G [] (.go (rowG tag ws (rows.map RowD.b))) := ⟨args, (by simp [Op.operands, Call.operands]; intro x hx; exact .inr hx), fun {M0 w0 M w fr} hr hf => by
  obtain ⟨vs, h1, h2⟩ := hf.ops ha (fun _ h => h)
  have hrows := hf.out key _ hg (.inl rfl)
  refine op_call h.ent h1 (h.run M w vs hr.mb hf.lay h2) fun v w' ⟨hb, r, e1, e2, e3, e4⟩ => ?_
  have hup : UpM M w (M.set r.b (some (0, tag))) w' := ⟨hb, fun c hc => by unfold Mut.set; rw [if_neg (by omega)], fun hm c hc => by
    have := e4.lt
    unfold Mut.set
    rw [if_neg (by omega)]
    exact hm c (Nat.le_trans hb.size hc)⟩
  refine ⟨_, StW.up hr.size hup, r, e1, e2, ⟨Nat.le_trans hr.size e3, e4, by simp [Mut.set]⟩, fun hm => ?_⟩
  obtain ⟨r', hr', e⟩ := List.mem_map.1 hm
  have := (hrows.1 r' hr').at_.lt
  omega⟩
def rawG (tag : Nat) (ws : List Wd) (avoid : List Nat) : Gh where
  tags := [tag]
  p := fun B M w v => ∃ r : RowD, r.ws = ws ∧ SlOf eRaw M w v [r.v] ∧ RowOk B M w tag r ∧ r.b ∉ avoid
  mono := fun ⟨r, h1, h2, h3, h4⟩ hs ht => ⟨r, h1, h2.mono hs.x, h3.stw hs (ht _ (by simp)), h4⟩
theorem t_bsRaw {s : Nat} {ws : List Wd} {tag : Nat} {avoid : List Nat} (hx : tlook G s = some (.go (rowG tag ws avoid)) := by rfl) : TOp Tryd.prog N ⟨d, .buildSlice 23 1 #[(0, .tmp s)], ty, pos, aft, g⟩ G [] (.go (rawG tag ws avoid)) := ⟨[.tmp s], by simp [Op.operands], fun {M0 w0 M w fr} hr hf => by
  obtain ⟨v, h1, r, e1, e2, e3, e4⟩ := hf.out s _ hx (.inr (by simp))
  refine op_buildSlice (E := eRaw) (parts := [(0, .tmp s)]) (vs := [v]) (l := [r.v]) Tryd.underlying23 teRaw.out hr rfl (by simp [opvs, opv, h1]) ⟨⟨[v], ⟨by rw [e2], _, _, _, rfl⟩, rfl⟩, trivial⟩ rfl ⟨Nat.le_of_ble_eq_true rfl, Nat.le_of_ble_eq_true rfl⟩ fun v' w' k1 _ k2 => ?_
  have hs := StW.up (M := M) hr.size (UpM.of_below k2)
  exact ⟨M, hs, r, e1, k1, e3.stw hs (by simp), e4⟩⟩
end
end Go.Proofs.YtedlipgopicijaaDoor
end

section
namespace Go.Proofs.YtedlipgopicijaaDoor
open Go Go.RowKit
instance : USl Tryd.prog 116 9 := ⟨Tryd.underlying116⟩
def voc : List ByteArray := [⟨#[97]⟩, ⟨#[116, 104, 101]⟩, ⟨#[99, 111, 117, 114, 116]⟩, ⟨#[119, 105, 108, 108]⟩, ⟨#[104, 101, 97, 114]⟩, ⟨#[109, 111, 116, 105, 111, 110]⟩, ⟨#[111, 102]⟩, ⟨#[112, 108, 97, 105, 110, 116, 105, 102, 102]⟩, ⟨#[77, 46, 73, 46, 84, 46]⟩, ⟨#[82, 117, 108, 101]⟩, ⟨#[49, 50, 40, 98, 41]⟩,
  ⟨#[100, 105, 115, 109, 105, 115, 115, 101, 100]⟩, ⟨#[119, 105, 116, 104]⟩, ⟨#[112, 114, 101, 106, 117, 100, 105, 99, 101]⟩, ⟨#[97, 110, 100]⟩, ⟨#[99, 111, 115, 116, 115]⟩, ⟨#[87, 87, 87, 64, 87]⟩, ⟨#[105, 116]⟩, ⟨#[105, 115]⟩, ⟨#[115, 111]⟩, ⟨#[111, 114, 100, 101, 114, 101, 100, 46]⟩,
  ⟨#[97, 98, 99, 100, 101, 102, 103, 104, 105, 106, 107, 108, 109, 110, 111, 112, 113, 114, 115, 116, 117, 118, 119, 120, 121, 122, 97, 98, 99, 100, 101, 102, 103, 104, 105, 106, 107, 108, 109, 110]⟩]
def keysV : List ByteArray := [⟨#[99, 111, 115, 116, 115]⟩, ⟨#[109, 111, 116, 105, 111, 110]⟩, ⟨#[82, 117, 108, 101]⟩, ⟨#[115, 109, 105, 116, 104]⟩]
def wdM (n : Int) : Wd :=
  if (n.tdiv 22).tmod 6 = 0 then ⟨(voc[(n.tmod 22).toNat]?).getD emp, (keysV[((n.tdiv 132).tmod 4).toNat]?).getD emp, (n.tdiv 528).tmod 2, 0⟩ else ⟨(voc[(n.tmod 22).toNat]?).getD emp, emp, 0, 0⟩
theorem voc_ok : ∀ s ∈ voc, 0 < widM s := by decide +kernel
theorem keys_ok : ∀ s ∈ keysV, 0 < widM s := by decide +kernel
structure OKWd (w : Wd) : Prop where
  s : 0 < widM w.s
  key : w.key = emp ∨ 0 < widM w.key
  table : w.table = 0 ∨ w.table = 1
theorem tmod_rng' {n k : Int} (h : 0 ≤ n) (hk : 0 < k) : 0 ≤ n.tmod k ∧ n.tmod k < k := ⟨Int.tmod_nonneg k h, Int.tmod_lt_of_pos _ hk⟩
theorem tdiv_nn {n k : Int} (h : 0 ≤ n) (hk : 0 < k) : 0 ≤ n.tdiv k := Int.tdiv_nonneg h (Int.le_of_lt hk)
theorem wdM_ok {n : Int} (h : 0 ≤ n) : OKWd (wdM n) ∧ (wdM n).note = 0 := by
  have hv : voc.length = 22 := rfl
  have hk : keysV.length = 4 := rfl
  have h1 := tmod_rng' (k := 22) h (by omega)
  have h2 := tmod_rng' (k := 4) (tdiv_nn (k := 132) h (by omega)) (by omega)
  have h3 := tmod_rng' (k := 2) (tdiv_nn (k := 528) h (by omega)) (by omega)
  have e1 : (voc[(n.tmod 22).toNat]?).getD emp = voc[(n.tmod 22).toNat]'(by omega) := by rw [List.getElem?_eq_getElem (by omega)]; rfl
  have e2 : (keysV[((n.tdiv 132).tmod 4).toNat]?).getD emp = keysV[((n.tdiv 132).tmod 4).toNat]'(by omega) := by rw [List.getElem?_eq_getElem (by omega)]; rfl
  unfold wdM
  rw [e1, e2]
  split
  · exact ⟨⟨voc_ok _ (List.getElem_mem _), .inr (keys_ok _ (List.getElem_mem _)), by dsimp only; omega⟩, rfl⟩
  · exact ⟨⟨voc_ok _ (List.getElem_mem _), .inl rfl, .inl rfl⟩, rfl⟩
theorem sbW : SB Tryd.prog 29 [(0, 1), (1, 1), (2, 1), (3, 1)] [.string ⟨#[]⟩, .string ⟨#[]⟩, .int .i64 0, .int .i64 0] :=
  ⟨⟨_, Tryd.underlying29, fun w => by kernel_rfl⟩, ⟨.agg #[.string ⟨#[]⟩, .string ⟨#[]⟩, .int .i64 0, .int .i64 0], fun w => ⟨by kernel_rfl, rfl⟩⟩⟩
theorem wordZ (M : Mut) (w : World) : eWord.R M w [.string ⟨#[]⟩, .string ⟨#[]⟩, .int .i64 0, .int .i64 0] ⟨emp, emp, 0, 0⟩ :=
  ⟨[.string ⟨#[]⟩, .string ⟨#[]⟩], [.int .i64 0, .int .i64 0], rfl, ⟨[.string ⟨#[]⟩], [.string ⟨#[]⟩], rfl, ⟨rfl, by decide⟩, ⟨rfl, by decide⟩⟩, ⟨[.int .i64 0], [.int .i64 0], rfl, ⟨rfl, (fun _ => show I64 0 by unfold I64; omega), (fun e => by cases e)⟩, ⟨rfl, (fun _ => show I64 0 by unfold I64; omega), (fun e => by cases e)⟩⟩⟩
instance : ZEc Tryd.prog 29 eWord ⟨emp, emp, 0, 0⟩ := ⟨_, tdW, wordZ⟩
theorem bl_word1 {s : ByteArray} : BLc Tryd.prog 29 [0] [pS s] eWord ⟨s, emp, 0, 0⟩ := blc sbW rfl wordZ (bls_cons w0l inferInstance rfl bls_nil)
theorem t_stF' {α β : Type} {E : Enc α} {E' : Enc β} {P : Program} {N : Nat} {G : TF} {d : Option Tmp} {ty : TypeId} {pos : String} {aft : Array Edge} {g : Option (Nat × Bool)} {x y : Operand} {b tag i off : Nat} {l : List α} {s t e : TypeId} {fd : Nat} {pr : α → β} {st : α → β → α} {p : Pub} {y' : β} (key : Nat) (hoff : FD P s fd off) (hF : FDc P s fd E E' pr st)
    (hx : topP G x = some (pRf b E i off) := by rfl) (hg : tlook G key = some (.rw b tag E l e) := by rfl) (hy : topP G y = some p := by rfl)
    (hp : PEc p E' y' := by infer_instance) (hE : TEc P t E' := by infer_instance) {x0 : α} (hi : l[i]? = some x0) :
    TOp P N ⟨d, .store t x y, ty, pos, aft, g⟩ G [tag] (.rw b tag E (l.set i (st x0 y')) e) := by
  obtain ⟨hlt, rfl⟩ := List.getElem?_eq_some_iff.1 hi
  exact t_stF key hF hoff hx hg hy hp hE hlt
set_option maxHeartbeats 2000000 in
theorem one_f {n : Int} (h : 0 ≤ n) : Fn Tryd.prog 52 [pI n] (pV eWord (wdM n)) := by
  have hv : voc.length = 22 := rfl
  have hk : keysV.length = 4 := rfl
  have h1 := tmod_rng' (k := 22) h (by omega)
  have h2 := tmod_rng' (k := 4) (tdiv_nn (k := 132) h (by omega)) (by omega)
  have h3 := tmod_rng' (k := 2) (tdiv_nn (k := 528) h (by omega)) (by omega)
  have e1 : (voc[(n.tmod 22).toNat]?).getD emp = voc[(n.tmod 22).toNat]'(by omega) := by rw [List.getElem?_eq_getElem (by omega)]; rfl
  have e2 : (keysV[((n.tdiv 132).tmod 4).toNat]?).getD emp = keysV[((n.tdiv 132).tmod 4).toNat]'(by omega) := by rw [List.getElem?_eq_getElem (by omega)]; rfl
  have hlt1 : (n.tmod 22).toNat < voc.length := by omega
  have hlt2 : ((n.tdiv 132).tmod 4).toNat < keysV.length := by omega
  refine fn_of ent52 Tryd.func52 rfl Tryd.ntmps52 rfl fun M0 w0 => ?_
  (repeat (first | refine c_seq ?_ | fail))
  refine c_reg ?_
  refine c_alloc (E := eWord) 1 100 fun b0 => ?_
  (repeat (first | refine c_seq ?_ | refine c_reg ?_ | refine c_rnil ?_ | refine (c_alloc (E := eWord) 2 101) ?_ | refine c_op (by first | exact (t_bs (l := voc) (E := eStr)) | exact (t_idx (hn := hlt1)) | exact (t_bl (hB := bl_word1)) | exact t_move | exact t_assign | exact t_load | exact t_rem | fail) ?_ | fail))
  intro b1
  by_cases hz : (n.tdiv 22).tmod 6 = 0
  · unfold wdM
    rw [if_pos hz, e1, e2]
    (repeat (first | refine c_seq ?_ | refine c_reg ?_ | refine c_rnil ?_ | refine c_true ?_ | refine (c_st 101 (t_st 101 (hi := by simp))) ?_ | refine c_op (by first | exact (t_bs (l := keysV) (E := eStr)) | exact (t_idx (hn := hlt2)) | exact (t_faR) | exact t_move | exact t_eqlT | exact t_load | exact t_quo | exact t_rem | fail) ?_ | fail))
    refine r_ex 22 fun o1 => r_and 22 (fun ho1 => ?_)
    refine c_st 101 (t_stF' (E' := eStr) (hF := inferInstance) 101 ho1 (hi := rfl)) ?_
    (repeat (first | refine c_reg ?_ | refine c_rnil ?_ | refine c_op (by first | exact (t_faR) | exact t_move | exact t_quo | exact t_rem | fail) ?_ | fail))
    refine r_ex 26 fun o2 => r_and 26 (fun ho2 => ?_)
    refine c_st 101 (t_stF' (E' := eI) (hF := inferInstance) 101 ho2 (hi := rfl)) ?_
    (repeat (first | refine c_seq ?_ | refine c_reg ?_ | refine c_rnil ?_ | refine (c_st 100 (t_st 100 (hi := by simp))) ?_ | refine c_op (by first | exact (t_loadRE 101 (hv := rfl)) | fail) ?_ | fail))
    exact c_retC Tryd.func52 rfl 100 (fun h => h)
  · unfold wdM
    rw [if_neg hz, e1]
    (repeat (first | refine c_seq ?_ | refine c_reg ?_ | refine c_rnil ?_ | refine c_skip ?_ | refine c_false ?_ | refine (c_st 101 (t_st 101 (hi := by simp))) ?_ | refine c_op (by first | exact t_move | exact t_eqlF | exact t_quo | exact t_rem | fail) ?_ | fail))
    (repeat (first | refine c_rnil ?_ | refine (c_st 100 (t_st 100 (hi := by simp))) ?_ | refine c_op (by first | exact (t_loadRE 101 (hv := rfl)) | fail) ?_ | fail))
    exact c_retC Tryd.func52 rfl 100 (fun h => h)
def lcg (x : Int) : Int := IntKind.u32.wrap (IntKind.u32.wrap (x * 1664525) + 1013904223)
theorem lcg_rng (x : Int) : 0 ≤ lcg x ∧ lcg x < 4294967296 := by
  unfold lcg
  rw [IntKind.wrap_u32]
  omega
def partGo : Nat → Int → List Wd
  | 0, _ => []
  | k + 1, x => wdM (lcg x / 2 ^ 8) :: partGo k (lcg x)
def partM (n most : Int) : List Wd := partGo (1 + n.tmod most).toNat (orK .u32 (IntKind.u32.wrap n) 1)
theorem partGo_len : ∀ (k : Nat) (x : Int), (partGo k x).length = k
  | 0, _ => rfl
  | k + 1, x => by rw [partGo, List.length_cons, partGo_len k]
theorem partGo_ok : ∀ (k : Nat) (x : Int), ∀ w ∈ partGo k x, OKWd w ∧ w.note = 0
  | 0, _, w, h => by cases h
  | k + 1, x, w, h => by
    have := lcg_rng x
    rcases List.mem_cons.1 h with rfl | h
    · exact wdM_ok (by omega)
    · exact partGo_ok k _ w h
set_option maxHeartbeats 2000000 in
theorem part_f {n most : Int} (hn : 0 ≤ n) (hm : 1 ≤ most ∧ most ≤ 1000) : FnO Tryd.prog 28 [pI n, pI most] (partM n most) := by
  have h1 := tmod_rng' (k := most) hn (by omega)
  obtain ⟨K, hK⟩ : ∃ K : Nat, K = (1 + n.tmod most).toNat := ⟨_, rfl⟩
  refine fnO_of ent28 Tryd.func28 rfl Tryd.ntmps28 rfl fun M0 w0 => ?_
  (repeat (first | refine c_seq ?_ | refine c_reg ?_ | refine c_rnil ?_ | refine c_block ?_ | refine c_op (by first | exact (t_cvK) | exact (t_orK) | exact t_move | exact t_assign | fail) ?_ | fail))
  refine c_loop (fun x : Nat × Int × List Wd => [(0, .pu (pI n)), (1, .pu (pI most)), (5, .pu (pK .u32 x.2.1)), (6, .go (grs eWord x.2.2 1 29)), (7, .pu (pI x.1))])
    (fun x => x.1 ≤ K ∧ x.2.2.length = x.1 ∧ x.2.2 ++ partGo (K - x.1) x.2.1 = partM n most) (fun x => K - x.1) (0, orK .u32 (IntKind.u32.wrap n) 1, []) ⟨by simp, rfl, by unfold partM; rw [← hK]; rfl⟩ (by repeat (first | exact trivial | refine ⟨has_rfl rfl, ?_⟩ | refine ⟨has_nilGo rfl, ?_⟩ | fail)) ?_
  rintro ⟨i, x, L⟩ ⟨hi, hL, hLs⟩ ih
  dsimp only at hi hL hLs ih ⊢
  by_cases hlt : i < K
  · rw [show K - i = (K - (i + 1)) + 1 by omega] at hLs
    simp only [partGo] at hLs
    have hr := lcg_rng x
    have hcv : IntKind.i64.wrap (lcg x / 2 ^ 8) = lcg x / 2 ^ 8 := IntWalk.i64_in _ (by omega)
    unfold lcg at hcv
    (repeat (first | refine c_seq ?_ | refine c_reg ?_ | refine c_rnil ?_ | refine c_block ?_ | refine c_inBlock ?_ | refine c_skip ?_ | refine c_true ?_ | refine c_op (by first | exact (t_mulK (k := .u32)) | exact (t_addK (k := .u32)) | exact (t_shrU32 (s := 8)) | exact (t_cvS hcv) | exact t_call (h := (one_f (by unfold lcg at hr; omega))) | exact t_move | exact t_assign | exact t_add | exact t_lssT | exact t_bs | exact t_rem | exact t_moveGo | exact t_assignGo) ?_ | refine c_opW t_appS ?_))
    refine (ih (i + 1, lcg x, L ++ [wdM (lcg x / 2 ^ 8)]) ⟨by dsimp only; omega, by dsimp only; simp [hL], ?_⟩ (by dsimp only; omega)).sub (by repeat (first | exact trivial | refine ⟨has_rfl rfl, ?_⟩ | fail))
    dsimp only
    rw [← hLs, List.append_assoc]
    rfl
  · rw [show K - i = 0 by omega] at hLs
    simp only [partGo, List.append_nil] at hLs
    rw [← hLs]
    (repeat (first | refine c_seq ?_ | refine c_reg ?_ | refine c_rnil ?_ | refine c_exit ?_ | refine c_false ?_ | refine c_op (by first | exact t_move | exact t_add | exact t_lssF | exact t_rem | exact t_moveGo | exact t_assignGo) ?_ | fail))
    refine c_retO Tryd.func28 rfl (fun e => ?_)
    rw [e] at hL
    simp at hL
    omega
end Go.Proofs.YtedlipgopicijaaDoor
end

section
namespace Go.Proofs.YtedlipgopicijaaDoor
open Go Go.RowKit
def RowD.put (r : RowD) (n : Nat) (x : Wd) : RowD := { r with ws := r.ws.set n x }
structure WdAt (w : World) (b o : Nat) (x : Wd) : Prop where
  c0 : w.cell? ⟨b, o, none⟩ = some (.string x.s)
  c1 : w.cell? ⟨b, o + 1, none⟩ = some (.string x.key)
  c2 : w.cell? ⟨b, o + 2, none⟩ = some (.int .i64 x.table)
  c3 : w.cell? ⟨b, o + 3, none⟩ = some (.int .i64 x.note)
  s0 : x.s.size ≤ 140737488351232
  s1 : x.key.size ≤ 140737488351232
  i2 : I64 x.table
  i3 : I64 x.note
theorem wordR_cells {M : Mut} {w : World} {cs : List Value} {x : Wd} (h : eWord.R M w cs x) : cs = [.string x.s, .string x.key, .int .i64 x.table, .int .i64 x.note] ∧ x.s.size ≤ 140737488351232 ∧ x.key.size ≤ 140737488351232 ∧ I64 x.table ∧ I64 x.note := by
  obtain ⟨a, b, rfl, ⟨a1, a2, rfl, ⟨rfl, q1⟩, ⟨rfl, q2⟩⟩, ⟨b1, b2, rfl, ⟨rfl, q3, _⟩, ⟨rfl, q4, _⟩⟩⟩ := h
  exact ⟨rfl, q1, q2, q3 rfl, q4 rfl⟩
theorem RowAt.word {w : World} {r : RowD} (h : RowAt w r) {n : Nat} (hn : n < r.ws.length) : WdAt w r.b (r.off + n * 4) r.ws[n] := by
  obtain ⟨pre, css, rest, h1, h2, h3⟩ := h.ex
  obtain ⟨cs, c1, c2⟩ := h2.get n hn
  obtain ⟨rfl, q1, q2, q3, q4⟩ := wordR_cells c1
  have e4 : eWord.sz = 4 := rfl
  have hcl := h2.len
  rw [e4] at hcl
  have key : ∀ j v, [Value.string r.ws[n].s, .string r.ws[n].key, .int .i64 r.ws[n].table, .int .i64 r.ws[n].note][j]? = some v → w.cell? ⟨r.b, r.off + n * 4 + j, none⟩ = some v := fun j v hj => by
    have hc := c2 j v hj
    rw [e4] at hc
    rw [cell_of_row w r.b _ _ _ (0, 0) h3]
    have hlt : n * 4 + j < css.length := (List.getElem?_eq_some_iff.1 hc).1
    have e : (pre ++ css ++ rest).toArray[r.off + n * 4 + j]? = css[n * 4 + j]? := by
      rw [List.getElem?_toArray, List.append_assoc, List.getElem?_append_right (by omega), List.getElem?_append_left (by omega)]
      congr 1
      omega
    rw [e]
    exact hc
  exact ⟨key 0 _ rfl, key 1 _ rfl, key 2 _ rfl, key 3 _ rfl, q1, q2, q3, q4⟩
section
variable {N : Nat} {fr : Fr} {w : World} {Ψ : Value → World → Prop} {d : Option Tmp} {ty : TypeId} {pos : String} {aft : Array Edge} {g : Option (Nat × Bool)}
theorem op_idxRow {r : RowD} {x i : Operand} {k : IntKind} {n : Int} (hx : opv fr x = some r.v) (hi : opv fr i = some (.int k n)) (h0 : 0 ≤ n ∧ n < r.ws.length) (h : Ψ (.pointer (some ⟨r.b, r.off + n.toNat * 4, none⟩)) w) :
    OP Tryd.prog N ⟨d, .indexAddr 27 x i, ty, pos, aft, g⟩ fr w Ψ := by
  refine OP.val (v := .pointer (some ⟨r.b, r.off + n.toNat * 4, none⟩)) (w' := w) (fun a ha => ?_) h
  have ht : Tryd.prog.underlying 27 = some (.slice 29) := Tryd.underlying27
  have hel : Tryd.prog.elem 27 = 29 := by simp [Program.elem, ht]
  have hr := run_indexAt_slice (P := Tryd.prog) w 27 ⟨r.b, r.off, none⟩ r.ws.length r.cap k n (by rw [hel]; exact ht)
  rw [hel, if_pos h0] at hr
  simp only [execOp, ha.eval hx, ha.eval hi, RowD.v]
  simp [hr, tdW.run_sizeOf (w := w), Addr.add_lit]
theorem op_ld1 {t by' : Nat} {z : List Value} {x : Operand} {b o : Nat} {v : Value} (hT : TD Tryd.prog t 1 by' false z) (hx : opv fr x = some (.pointer (some ⟨b, o, none⟩))) (hc : w.cell? ⟨b, o, none⟩ = some v) (h : Ψ v w) :
    OP Tryd.prog N ⟨d, .load t x, ty, pos, aft, g⟩ fr w Ψ :=
  OP.val (v := v) (w' := w) (fun a ha => by simp [execOp, ha.eval hx, Instr.loadAt, Instr.sureAddr, loadVar, hT.run_isAgg (w := w), hc]) h
theorem op_stRow {B tag t by' f : Nat} {z : List Value} {M : Mut} {x y : Operand} {r : RowD} {n : Nat} {u : Value} {x' : Wd} (hT : TD Tryd.prog t 1 by' false z) (hx : opv fr x = some (.pointer (some ⟨r.b, r.off + n * 4 + f, none⟩))) (hy : opv fr y = some u) (hu : u.oneCell' = true)
    (hn : n < r.ws.length) (hok : RowOk B M w tag r) (hf : f < 4) (hx' : ∀ cs, eWord.R (fun _ => none) w cs r.ws[n] → eWord.R (fun _ => none) w (splice cs f [u]) x')
    (h : ∀ w', RowOk B M w' tag (r.put n x') → St B (some tag) M w M w' → (∀ b, b ≠ r.b → w'.heap[b]? = w.heap[b]?) → Ψ undef w') :
    OP Tryd.prog N ⟨d, .store t x y, ty, pos, aft, g⟩ fr w Ψ := by
  obtain ⟨pre, css, rest, h1, h2, h3⟩ := hok.at_.ex
  have e4 : eWord.sz = 4 := rfl
  have hcl := h2.len
  rw [e4] at hcl
  have hle : r.off + n * 4 + f + 1 ≤ (pre ++ css ++ rest).length := by
    simp only [List.length_append]
    have : n * 4 + 4 ≤ css.length := by rw [hcl]; omega
    omega
  have hst := run_storeCells_at Tryd.prog r.b (r.off + n * 4 + f) 29 [u] 0 (pre ++ css ++ rest).toArray w h3 (by simpa using hle) (fun v hv => by rw [List.mem_singleton.1 hv]; exact hu)
  simp only [Nat.add_zero] at hst
  have hM : M = M.set r.b (some (0, tag)) := by
    funext k
    unfold Mut.set
    split
    · rename_i hk; subst hk; exact hok.mark
    · rfl
  have hlt := hok.at_.lt
  have hsp : splice (pre ++ css ++ rest) (r.off + n * 4 + f) [u] = pre ++ splice css (n * eWord.sz + f) [u] ++ rest := by
    rw [splice_left (a := pre ++ css) (b := rest) (by simp only [List.length_append, List.length_singleton]; omega), show r.off + n * 4 + f = pre.length + (n * eWord.sz + f) by rw [e4]; omega, splice_right]
  refine OP.skip (w' := w.setRow r.b (splice (pre ++ css ++ rest) (r.off + n * 4 + f) [u]).toArray) (fun a ha => ?_) (h _ ⟨hok.ge, ⟨?_, hok.at_.cap, ?_, pre, _, rest, h1, cssW_flat (h2.update n hn f [u] x' hx' (by rw [e4]; simp only [List.length_singleton]; omega)), ?_⟩, hok.mark⟩ ?_ (fun b hb => setRow_other w r.b b _ hb))
  · have hcs : u.cells = [u].toArray := by rw [cells_of_one hu]
    simp only [execOp, ha.eval hx, ha.eval hy, Instr.storeAt, Instr.sureAddr, storeVar]
    simp [hT.run_sizeOf (w := w), hcs, hst, splice]
  · have := hok.at_.len
    unfold RowD.put
    simpa using this
  · have := hok.at_.by_
    unfold RowD.put
    simpa using this
  · rw [← hsp]
    exact setRow_heap w r.b _ _ _ _ h3
  · have := St.write (M := M) (w := w) (w' := w.setRow r.b (splice (pre ++ css ++ rest) (r.off + n * 4 + f) [u]).toArray) (k := 0) (k' := 0) hok.ge hlt hok.mark rfl (Nat.le_refl _) rfl rfl rfl (by simp [World.setRow]) (fun k hk => setRow_other w r.b k _ hk) (fun off ho => by omega)
    rwa [← hM] at this
end
end Go.Proofs.YtedlipgopicijaaDoor
end

section
namespace Go.Proofs.YtedlipgopicijaaDoor
open Go Go.RowKit
theorem any_drop {α : Type} {q : α → Bool} {l : List α} {i : Nat} (h : i < l.length) : (l.drop i).any q = (q l[i] || (l.drop (i + 1)).any q) := by
  rw [List.drop_eq_getElem_cons h, List.any_cons]
theorem any_end {α : Type} {q : α → Bool} {l : List α} {i : Nat} (h : l.length ≤ i) : (l.drop i).any q = false := by
  rw [List.drop_of_length_le h]; rfl
end Go.Proofs.YtedlipgopicijaaDoor
end

section
namespace Go.Proofs.YtedlipgopicijaaDoor
open Go Go.RowKit
def fromGo : List Wd → Nat → Nat → Nat
  | [], _, f => f
  | w :: r, i, f => fromGo r (i + 1) (if w.note ≠ 0 then i + 1 else f)
def fromM (ws : List Wd) : Nat := fromGo ws 0 0
def refAt (ws : List Wd) (n : Int) : Nat := (fromM ws + n.tmod (ws.length - fromM ws : Nat)).toNat
def refOk (ws : List Wd) (later : Bool) : Bool := !later && decide (fromM ws < ws.length)
theorem refAt_lt {ws : List Wd} {n : Int} (hn : 0 ≤ n) (h : fromM ws < ws.length) : fromM ws ≤ refAt ws n ∧ refAt ws n < ws.length := by
  have := tmod_rng' (k := ((ws.length - fromM ws : Nat) : Int)) hn (by omega)
  unfold refAt
  omega
set_option maxHeartbeats 2000000 in
theorem refer_c {B tag : Nat} {M : Mut} {w : World} {r : RowD} {n note : Int} {later : Bool} (hok : RowOk B M w tag r) (hn : 0 ≤ n) (hI : I64 n) (hI2 : I64 note) :
    CallsV Tryd.prog 29 [r.v, .int .i64 n, .int .i64 note, .bool later] w (fun v w' =>
      if h : refOk r.ws later = true then ∃ hi : refAt r.ws n < r.ws.length, v = .bool true ∧ RowOk B M w' tag (r.put (refAt r.ws n) { r.ws[refAt r.ws n] with note := note }) ∧ St B (some tag) M w M w' ∧ ∀ b, b ≠ r.b → w'.heap[b]? = w.heap[b]?
      else v = .bool false ∧ w' = w) := by
  have hlen := hok.at_.by_
  refine callsV_of_run Tryd.func29 rfl Tryd.ntmps29 (Nat.le_of_ble_eq_true rfl) ?_
  (repeat (first | refine run_seq ?_ | refine run_region_l ?_ | refine rl_nil ?_ | refine rl_step (by decide) (op_assign rfl ?_) | refine run_block ?_ | fail))
  refine (run_loop (α := Nat × Nat) (fun x => [(0, r.v), (1, .int .i64 n), (2, .int .i64 note), (3, .bool later), (9, .int .i64 x.2), (10, .int .i64 x.1)])
    (fun x w' => x.1 ≤ r.ws.length ∧ w' = w ∧ fromGo (r.ws.drop x.1) x.1 x.2 = fromM r.ws ∧ x.2 ≤ x.1) (fun x => r.ws.length - x.1) (0, 0) ⟨Nat.zero_le _, rfl, rfl, Nat.le_refl _⟩ ?_).sub (by repeat (first | exact trivial | refine ⟨rfl, ?_⟩))
  rintro ⟨i, f⟩ w' ⟨hi, rfl, hF, hfi⟩ ih
  dsimp only at hi hF hfi ih ⊢
  (repeat (first | refine run_seq ?_ | refine run_region_l ?_ | refine rl_step (by decide) (op_move rfl ?_) | fail))
  refine rl_step (by decide) (op_lenv Tryd.underlying27 rfl ?_)
  (repeat (first | refine rl_nil ?_ | refine rl_step (by decide) (op_lss rfl rfl ?_) | fail))
  refine run_if rfl (fun hlt => ?_) (fun hlt => ?_)
  · have hi' : i < r.ws.length := by omega
    rw [List.drop_eq_getElem_cons hi'] at hF
    simp only [fromGo] at hF
    have hw := hok.at_.word hi'
    (repeat (first | refine run_seq ?_ | refine run_region_l ?_ | refine rl_step (by decide) (op_move rfl ?_) | refine run_block ?_ | refine run_skip ?_ | fail))
    refine rl_step (by decide) (op_idxRow rfl rfl (by omega) ?_)
    refine rl_step (by decide) (op_fieldBox fdW3 rfl ?_)
    refine rl_step (by decide) (op_ld1 tdI rfl (by simpa using hw.c3) ?_)
    (repeat (first | refine rl_nil ?_ | refine rl_step (by decide) (op_neq rfl rfl ?_) | fail))
    refine run_if rfl (fun h => ?_) (fun h => ?_)
    · rw [if_pos h] at hF
      (repeat (first | refine run_region_l ?_ | refine rl_nil ?_ | refine rl_step (by decide) (op_move rfl ?_) | refine rl_step (by decide) (op_assign rfl ?_) | refine run_inBlock ?_ | refine rl_step (by decide) (op_add rfl rfl (by omega) ?_) | fail))
      exact (ih (i + 1, i + 1) _ ⟨by dsimp only; omega, rfl, hF, Nat.le_refl _⟩ (by dsimp only; omega)).sub (by repeat (first | exact trivial | refine ⟨rfl, ?_⟩))
    · rw [if_neg h] at hF
      (repeat (first | refine run_region_l ?_ | refine rl_nil ?_ | refine rl_step (by decide) (op_move rfl ?_) | refine rl_step (by decide) (op_assign rfl ?_) | refine run_inBlock ?_ | refine run_skip ?_ | refine rl_step (by decide) (op_add rfl rfl (by omega) ?_) | fail))
      exact (ih (i + 1, f) _ ⟨by dsimp only; omega, rfl, hF, by dsimp only; omega⟩ (by dsimp only; omega)).sub (by repeat (first | exact trivial | refine ⟨rfl, ?_⟩))
  · rw [List.drop_of_length_le (by omega)] at hF
    simp only [fromGo] at hF
    subst hF
    cases later
    · by_cases hlt2 : fromM r.ws < r.ws.length
      · have hro : refOk r.ws false = true := by simp [refOk, hlt2]
        obtain ⟨q1, q2⟩ := refAt_lt hn hlt2
        have hm := tmod_rng' (k := ((r.ws.length - fromM r.ws : Nat) : Int)) hn (by omega)
        have hra : (refAt r.ws n : Int) = fromM r.ws + n.tmod (r.ws.length - fromM r.ws : Nat) := by unfold refAt; omega
        have hsub : ((r.ws.length : Int) - (fromM r.ws : Int)) = ((r.ws.length - fromM r.ws : Nat) : Int) := by omega
        (repeat (first | refine run_seq ?_ | refine run_region_l ?_ | refine rl_step (by decide) (op_move rfl ?_) | refine run_exit rfl ?_ | refine rl_yes rfl rfl ?_ | fail))
        refine rl_step (by decide) (op_lenv Tryd.underlying27 rfl ?_)
        (repeat (first | refine rl_nil ?_ | refine rl_yes rfl rfl ?_ | refine rl_step (by decide) (op_pick_f rfl rfl ?_) | refine rl_step (by decide) (op_geq rfl rfl ?_) | fail))
        refine run_no rfl (by omega) ?_
        (repeat (first | refine run_seq ?_ | refine run_region_l ?_ | refine rl_step (by decide) (op_move rfl ?_) | refine run_skip ?_ | fail))
        refine rl_step (by decide) (op_lenv Tryd.underlying27 rfl ?_)
        (repeat (first | refine rl_step (by decide) (op_move rfl ?_) | refine rl_step (by decide) (op_sub rfl rfl (by omega) ?_) | fail))
        refine rl_step (by decide) (op_rem rfl rfl (by omega) ?_)
        rw [hsub]
        (repeat (first | refine rl_step (by decide) (op_move rfl ?_) | refine rl_step (by decide) (op_add rfl rfl (by omega) ?_) | fail))
        refine rl_step (by decide) (op_idxRow rfl rfl (by omega) ?_)
        refine rl_step (by decide) (op_fieldBox fdW3 rfl ?_)
        have hidx : ((fromM r.ws : Int) + n.tmod ((r.ws.length - fromM r.ws : Nat) : Int)).toNat = refAt r.ws n := rfl
        rw [hidx]
        refine rl_step0 (op_stRow (n := refAt r.ws n) (f := 3) (x' := { r.ws[refAt r.ws n] with note := note }) tdI rfl rfl rfl q2 hok (by omega) (fun cs hR => ?_) fun w1 h1 h2 h3 => ?_)
        · exact w3l.set hR ⟨rfl, fun _ => hI2, fun e => by cases e⟩
        (repeat (first | refine run_seq ?_ | refine run_region_l ?_ | refine rl_nil ?_ | refine rl_step (by decide) (op_assign rfl ?_) | fail))
        refine run_ret1 Tryd.func29 rfl rfl ?_
        rw [dif_pos hro]
        exact ⟨q2, rfl, h1, h2, h3⟩
      · have hro : ¬ refOk r.ws false = true := by simp [refOk, hlt2]
        (repeat (first | refine run_seq ?_ | refine run_region_l ?_ | refine rl_step (by decide) (op_move rfl ?_) | refine run_exit rfl ?_ | refine rl_yes rfl rfl ?_ | fail))
        refine rl_step (by decide) (op_lenv Tryd.underlying27 rfl ?_)
        (repeat (first | refine rl_nil ?_ | refine rl_yes rfl rfl ?_ | refine rl_step (by decide) (op_pick_f rfl rfl ?_) | refine rl_step (by decide) (op_geq rfl rfl ?_) | fail))
        refine run_yes rfl (by omega) ?_
        (repeat (first | refine run_seq ?_ | refine run_region_l ?_ | refine rl_nil ?_ | refine rl_step (by decide) (op_assign rfl ?_) | fail))
        refine run_ret1 Tryd.func29 rfl rfl ?_
        rw [dif_neg hro]
        exact ⟨rfl, rfl⟩
    · have hro : ¬ refOk r.ws true = true := by simp [refOk]
      (repeat (first | refine run_seq ?_ | refine run_region_l ?_ | refine rl_nil ?_ | refine rl_step (by decide) (op_move rfl ?_) | refine rl_step (by decide) (op_assign rfl ?_) | refine run_exit rfl ?_ | refine run_true rfl ?_ | refine rl_no rfl rfl rfl (by decide) ?_ | refine rl_step (by decide) (op_pick_t rfl rfl ?_) | fail))
      refine run_ret1 Tryd.func29 rfl rfl ?_
      rw [dif_neg hro]
      exact ⟨rfl, rfl⟩
theorem rows_len {M : Mut} {w : World} {v : Value} {l : List (List Wd)} (h : SlOf (eSl eWord) M w v l) : ∀ p ∈ l, p.length ≤ 2932031007403 := fun p hp => by
  obtain ⟨i, hi, rfl⟩ := List.mem_iff_getElem.1 hp
  obtain ⟨a, cap, h1, h2, h3, h4, h5, h6⟩ := h.ex
  cases a with
  | none => have := h4 rfl; omega
  | some ad =>
    obtain ⟨cs, ⟨u, _, hs⟩, _⟩ := h6 ad rfl i hi
    exact i_len48 hs
def lastM (l : List (List Wd)) (k : Nat) : Bool := (l.drop (k + 1)).any fun p => p.any fun w => decide (w.note ≠ 0)
theorem last_f {l : List (List Wd)} {k : Nat} (hk : k ≤ 1000000) : Fn Tryd.prog 30 [pSl (eSl eWord) l, pI k] (pB (lastM l k)) := by
  refine fn_of ent30 Tryd.func30 rfl Tryd.ntmps30 rfl fun M0 w0 => ?_
  refine c_have 0 (fun h => i_len24 h) fun hl => ?_
  refine c_have 0 (fun h => rows_len h) fun hrl => ?_
  obtain ⟨r, hr⟩ : ∃ r, r = lastM l k := ⟨_, rfl⟩
  rw [← hr]
  (repeat (first | refine c_seq ?_ | refine c_reg ?_ | refine c_rnil ?_ | refine c_block ?_ | refine c_op (by first | exact t_move | exact t_assign | exact t_add | fail) ?_ | fail))
  refine c_loop (fun i : Nat => [(0, .pu (pSl (eSl eWord) l)), (5, .pu (pI i))]) (fun i => k + 1 ≤ i ∧ r = (l.drop i).any fun p => p.any fun w => decide (w.note ≠ 0)) (fun i => l.length - i) (k + 1) ⟨Nat.le_refl _, hr⟩ (by repeat (first | exact trivial | refine ⟨has_rfl rfl, ?_⟩ | fail)) fun i hJ ih => ?_
  obtain ⟨hi, hri⟩ := hJ
  by_cases hlt : i < l.length
  · rw [any_drop hlt] at hri
    have hpl := hrl _ (List.getElem_mem hlt)
    (repeat (first | refine c_seq ?_ | refine c_reg ?_ | refine c_rnil ?_ | refine c_block ?_ | refine c_skip ?_ | refine c_true ?_ | refine c_op (by first | exact t_move | exact t_assign | exact t_lssT | exact t_len | fail) ?_ | fail))
    refine c_loop (fun k : Nat => [(0, .pu (pSl (eSl eWord) l)), (5, .pu (pI i)), (6, .pu (pI k))])
      (fun k => k ≤ l[i].length ∧ r = (((l[i].drop k).any fun w => decide (w.note ≠ 0)) || (l.drop (i + 1)).any fun p => p.any fun w => decide (w.note ≠ 0))) (fun k => l[i].length - k) 0 ⟨by omega, hri⟩ (by repeat (first | exact trivial | refine ⟨has_rfl rfl, ?_⟩ | fail)) fun k ⟨hk, hrk⟩ ih2 => ?_
    by_cases hlk : k < l[i].length
    · rw [any_drop hlk] at hrk
      by_cases hno : l[i][k].note = 0
      · rw [decide_eq_false (fun h => h hno), Bool.false_or] at hrk
        (repeat (first | refine c_seq ?_ | refine c_reg ?_ | refine c_rnil ?_ | refine c_block ?_ | refine c_inBlock ?_ | refine c_skip ?_ | refine c_true ?_ | refine c_false ?_ | refine c_op (by first | exact t_move | exact t_assign | exact t_add | exact t_lssT | exact t_neqF | exact t_len | exact t_idxN | exact t_load | exact t_fa | fail) ?_ | fail))
        exact (ih2 (k + 1) ⟨by omega, hrk⟩ (by omega)).sub (by repeat (first | exact trivial | refine ⟨has_rfl rfl, ?_⟩ | fail))
      · rw [decide_eq_true hno, Bool.true_or, Bool.true_or] at hrk
        rw [hrk]
        (repeat (first | refine c_seq ?_ | refine c_reg ?_ | refine c_rnil ?_ | refine c_block ?_ | refine c_skip ?_ | refine c_true ?_ | refine c_op (by first | exact t_move | exact t_assign | exact t_lssT | exact t_neqT | exact t_len | exact t_idxN | exact t_load | exact t_fa | fail) ?_ | fail))
        refine c_ret1 Tryd.func30 rfl ?_
        exact fun h => h
    · rw [any_end (by omega), Bool.false_or] at hrk
      (repeat (first | refine c_seq ?_ | refine c_reg ?_ | refine c_rnil ?_ | refine c_inBlock ?_ | refine c_exit ?_ | refine c_false ?_ | refine c_op (by first | exact t_move | exact t_assign | exact t_add | exact t_lssF | exact t_len | exact t_idxN | exact t_load | fail) ?_ | fail))
      exact (ih (i + 1) ⟨by omega, hrk⟩ (by omega)).sub (by repeat (first | exact trivial | refine ⟨has_rfl rfl, ?_⟩ | fail))
  · rw [any_end (by omega)] at hri
    rw [hri]
    (repeat (first | refine c_seq ?_ | refine c_reg ?_ | refine c_rnil ?_ | refine c_exit ?_ | refine c_false ?_ | refine c_op (by first | exact t_move | exact t_assign | exact t_lssF | exact t_len | fail) ?_ | fail))
    refine c_ret1 Tryd.func30 rfl ?_
    exact fun h => h
end Go.Proofs.YtedlipgopicijaaDoor
end

section
namespace Go.Proofs.YtedlipgopicijaaDoor
open Go Go.RowKit
section
variable {P : Program} {f : FuncId} {N : Nat} {R : Value → World → Prop} {fr : Fr} {w : World} {k : List Item} {ops : Array Oper} {n : Nat}
theorem rt_yes {listed : Array Bool} {i j dj : Nat} {want : Bool} {d : Nat} {op : Op} {ty : TypeId} {pos : String} {aft : Array Edge} (hr : Region.ready .any ops listed = [i]) (ho : ops[i]? = some ⟨some d, op, ty, pos, aft, some (j, want)⟩) (hj : (ops[j]?).bind (·.dst) = some dj) (hl : look fr dj = some (.bool want)) (hd : d < N)
    (h : OP P N ⟨some d, op, ty, pos, aft, some (j, want)⟩ fr w (fun v w' => RT P f N ops k R n (listed.setIfInBounds i true) ((d, v) :: fr) w')) : RT P f N ops k R (n + 1) listed fr w := by
  refine ⟨fun a ha => ?_⟩
  refine ⟨(fun h0 => by rw [hr] at h0; cases h0), fun q hq => ?_⟩
  rw [hr] at hq
  simp at hq
  subst hq
  have hy := yielded_of ha hj hl
  unfold wpOp
  simp only [ho]
  rw [if_pos (by simp [Region.wanted, hy])]
  exact .inl (OP.wp (h.mono fun v w' hk => hk.out _ (ha.put v hd)) ha)
end
section
variable {P : Program} {f : FuncId} {N : Nat} {M0 : Mut} {w0 : World} {R : Value → World → Prop} {G : TF} {k : List Item} {n : Nat} {listed : Array Bool}
variable {ops : Array Oper} {d : Nat} {op : Op} {ty : TypeId} {pos : String} {aft : Array Edge} {T : Kd}
theorem q_yes (i : Nat) {j dj : Nat} {want : Bool} {W : List Nat} (hr : Region.ready .any ops listed = [i]) (ho : ops[i]? = some ⟨some d, op, ty, pos, aft, some (j, want)⟩) (h : TOp P N ⟨some d, op, ty, pos, aft, some (j, want)⟩ G W T)
    (hk : RTt P f N M0 w0 ops k R n (listed.setIfInBounds i true) ((d, T) :: dropW W G)) (hj : (ops[j]?).bind (·.dst) = some dj := by rfl) (hg : topP G (.tmp dj) = some (pB want) := by rfl) (hd : d < N := by decide) : RTt P f N M0 w0 ops k R (n + 1) listed G := ⟨fun hrn hf => by
  obtain ⟨v, h1, rfl⟩ := hf.op0 hg (fun _ _ => trivial)
  exact rt_yes hr ho hj h1 hd ((h.fit hrn hf).mono fun _ _ ⟨_, hs, hv⟩ => hk.out (hrn.stw hs) ((hf.after hs).cons hv))⟩
theorem q_yesE (i key : Nat) {j dj : Nat} {want : Bool} {W : List Nat} {β : Type} {T T' : β → Kd} (hr : Region.ready .any ops listed = [i]) (ho : ops[i]? = some ⟨some d, op, ty, pos, aft, some (j, want)⟩) (h : TOpE P N ⟨some d, op, ty, pos, aft, some (j, want)⟩ G W T T')
    (hk : ∀ x, RTt P f N M0 w0 ops k R n (listed.setIfInBounds i true) ((d, T x) :: (key, T' x) :: dropW W G)) (hg' : ∀ x, (T' x).ghost = true := by intro x; rfl) (hj : (ops[j]?).bind (·.dst) = some dj := by rfl) (hg : topP G (.tmp dj) = some (pB want) := by rfl) (hd : d < N := by decide) : RTt P f N M0 w0 ops k R (n + 1) listed G := ⟨fun hrn hf => by
  obtain ⟨v, h1, rfl⟩ := hf.op0 hg (fun _ _ => trivial)
  exact rt_yes hr ho hj h1 hd ((h.fit hrn hf).mono fun _ _ ⟨x, _, hs, hv, hv'⟩ => (hk x).out (hrn.stw hs) (((hf.after hs).hide (Kd.E_of_V (hg' x) hv')).cons hv))⟩
theorem q_open (t key : Nat) {g : Gh} {β : Type} (T T' : β → Kd) (hs : ∀ {B : Nat} {M : Mut} {w : World} {v : Value}, g.p B M w v → ∃ x, (T x).V B M w v ∧ (T' x).V B M w undef)
    (h : ∀ x, RTt P f N M0 w0 ops k R n listed ((t, T x) :: (key, T' x) :: G)) (ht : tlook G t = some (.go g) := by rfl) (hg : ∀ x, (T' x).ghost = true := by intro x; rfl) (hT : ∀ (x : β) (B : Nat) (M : Mut) (w : World) (fr : Fr) (v : Value), look fr t = some v → (T x).V B M w v → (T x).E B M w fr t := by intro x B M w fr v h1 h2; exact ⟨v, h1, h2⟩) :
    RTt P f N M0 w0 ops k R n listed G := ⟨fun hr hf => by
  obtain ⟨v, h1, h2⟩ := hf.out t _ ht (.inr trivial)
  obtain ⟨x, k1, k2⟩ := hs h2
  exact (h x).out hr ((hf.hide (Kd.E_of_V (hg x) k2)).hide (hT x _ _ _ _ _ h1 k1))⟩
end
section
variable {P : Program} {N : Nat} {G : TF} {d : Option Tmp} {ty : TypeId} {pos : String} {aft : Array Edge} {g : Option (Nat × Bool)}
theorem t_lenNm {α : Type} {E : Enc α} {x : Operand} {v : Value} {l : List α} {tag : Nat} {t e e' : TypeId} (key : Nat) (hx : topP G x = some (pv v) := by rfl) (hg : tlook G key = some (.gv v E l tag e') := by rfl) (ht : USl P t e := by infer_instance) :
    TOp P N ⟨d, .call ⟨.builtin .len, #[x], #[t]⟩, ty, pos, aft, g⟩ G [] (.pu (pI l.length)) := .pure [x] (by simp [Op.operands, Call.operands]) fun hf => by
  obtain ⟨_, h0, rfl⟩ := hf.op hx (by simp)
  obtain ⟨h1, _⟩ := hf.out key _ hg (.inl rfl)
  have hl := h1.le
  exact op_len ht.out h0 h1 ⟨rfl, rfl, rng64 (by omega)⟩
theorem t_idxNm {x i : Operand} {v : Value} {rows : List RowD} {tag : Nat} {e' : TypeId} {k : IntKind} {n : Nat} (key : Nat) (hx : topP G x = some (pv v) := by rfl) (hg : tlook G key = some (.gv v eRaw (rows.map RowD.v) tag e') := by rfl) (hi : topP G i = some (pK k (n : Int)) := by rfl)
    (hn : n < rows.length := by omega) : TOp Tryd.prog N ⟨d, .indexAddr 23 x i, ty, pos, aft, g⟩ G [] (.pu (pPtr eRaw (rows[n]'hn).v)) := .pure [x, i] (by simp [Op.operands]) fun {B M w fr} hf => by
  obtain ⟨_, h0, rfl⟩ := hf.op hx (by simp)
  obtain ⟨_, h2, rfl, _⟩ := hf.op hi (by simp)
  obtain ⟨h1, _⟩ := hf.out key _ hg (.inl rfl)
  refine op_indexAddr Tryd.underlying23 teRaw.out h0 h2 h1 (by rw [List.length_map]; omega) fun ad hn' he => ⟨rfl, ad, rfl, ?_⟩
  simpa using he
theorem t_ldRaw {x : Operand} {u : Value} (hx : topP G x = some (pPtr eRaw u) := by rfl) : TOp Tryd.prog N ⟨d, .load 27 x, ty, pos, aft, g⟩ G [] (.pu (pv u)) := t_load hx teRaw ldRaw
theorem t_last {x y : Operand} {argT : Array TypeId} {v : Value} {rows rest : List RowD} {tag tg k : Nat} {e' : TypeId} (kv kr : Nat) (hk : k ≤ 1000000 := by omega) (hx : topP G x = some (pv v) := by rfl) (hy : topP G y = some (pI (k : Int)) := by rfl) (hg : tlook G kv = some (.gv v eRaw (rows.map RowD.v) tag e') := by rfl)
    (hr : tlook G kr = some (.gh (rowsG tg (rows ++ rest))) := by rfl) :
    TOp Tryd.prog N ⟨d, .call ⟨.value (.func 30), #[x, y], argT⟩, ty, pos, aft, g⟩ G [] (.pu (pB (lastM (rows.map RowD.ws) k))) := .up [x, y] (by simp [Op.operands, Call.operands]) fun {M0 w0 M w fr} hrn hf => by
  obtain ⟨v1, h0, e1⟩ := hf.op hx (by simp)
  change v1 = v at e1
  subst e1
  obtain ⟨u, h1, h2⟩ := hf.op hy (by simp)
  obtain ⟨h3, _⟩ := hf.out kv _ hg (.inl rfl)
  obtain ⟨h4, _⟩ := hf.out kr _ hr (.inl rfl)
  have hread := rows_read (M' := fun _ => none) h3 ⟨fun a u hc => ⟨hc.1, fun p hp => by cases hp⟩⟩ (fun r hr' => ⟨(h4 r (List.mem_append_left _ hr')).at_, rfl⟩)
  have hl : Lays (fun _ => none) w := ⟨fun i hi => ⟨(hf.lay.cell i hi).1, fun p hp => by cases hp⟩⟩
  exact op_call ent30 (args := [x, y]) (vs := [v1, u]) (by simp [opvs, h0, h1]) ((last_f hk).run (fun _ => none) w [v1, u] (fun b _ => rfl) hl ⟨hread, h2, trivial⟩) fun v' w' hv => ⟨hv.2, hv.1⟩
def refRow (r : RowD) (n note : Int) : RowD := r.put (refAt r.ws n) { (r.ws[refAt r.ws n]?).getD ⟨emp, emp, 0, 0⟩ with note := note }
theorem t_refer {x y z u : Operand} {argT : Array TypeId} {rows : List RowD} {i : Nat} {tag : Nat} {n note : Int} {later : Bool} (kr : Nat) (hi : i < rows.length) (hn : 0 ≤ n) (hx : topP G x = some (pv (rows[i]'hi).v) := by rfl) (hy : topP G y = some (pI n) := by rfl) (hz : topP G z = some (pI note) := by rfl) (hu : topP G u = some (pB later) := by rfl)
    (hr : tlook G kr = some (.gh (rowsG tag rows)) := by rfl) :
    TOpE Tryd.prog N ⟨d, .call ⟨.value (.func 29), #[x, y, z, u], argT⟩, ty, pos, aft, g⟩ G [tag] (fun _ : Unit => .pu (pB (refOk (rows[i]'hi).ws later))) (fun _ => .gh (rowsG tag (if refOk (rows[i]'hi).ws later = true then rows.set i (refRow (rows[i]'hi) n note) else rows))) :=
  ⟨[x, y, z, u], by simp [Op.operands, Call.operands], fun {M0 w0 M w fr} hrn hf => by
  obtain ⟨_, h0, rfl⟩ := hf.op hx (by simp)
  obtain ⟨_, h1, rfl, r1⟩ := hf.op hy (by simp)
  obtain ⟨_, h2, rfl, r2⟩ := hf.op hz (by simp)
  obtain ⟨_, h3, rfl⟩ := hf.op hu (by simp)
  obtain ⟨h4, h5⟩ := hf.out kr _ hr (.inl rfl)
  have hok := h4 _ (List.getElem_mem hi)
  refine op_call ent29 (args := [x, y, z, u]) (vs := [(rows[i]'hi).v, .int .i64 n, .int .i64 note, .bool later]) (by simp [opvs, h0, h1, h2, h3]) (refer_c hok hn (r1.1 rfl) (r2.1 rfl)) fun v w' hv => ?_
  split at hv
  · rename_i hro
    obtain ⟨hi2, rfl, k1, k2, k3⟩ := hv
    refine ⟨(), M, StW.st k2, by rw [hro]; rfl, ?_⟩
    rw [if_pos hro]
    have hrow : refRow (rows[i]'hi) n note = (rows[i]'hi).put (refAt (rows[i]'hi).ws n) { (rows[i]'hi).ws[refAt (rows[i]'hi).ws n] with note := note } := by
      unfold refRow
      rw [List.getElem?_eq_getElem hi2]
      rfl
    refine ⟨fun r hr' => ?_, ?_⟩
    · obtain ⟨j, hj, rfl⟩ := List.mem_iff_getElem.1 hr'
      rw [List.length_set] at hj
      rw [List.getElem_set]
      split
      · rw [hrow]; exact k1
      · rename_i hne
        have hokj := h4 _ (List.getElem_mem hj)
        have hb : rows[j].b ≠ rows[i].b := fun e => by
          have hnd := List.pairwise_iff_getElem.1 h5
          rcases Nat.lt_or_ge i j with hlt | hge
          · exact hnd i j (by simpa using hi) (by simpa using hj) hlt (by simp [e])
          · exact hnd j i (by simpa using hj) (by simpa using hi) (by omega) (by simp [e])
        exact ⟨hokj.ge, hokj.at_.same (k3 _ hb), hokj.mark⟩
    · have e : (rows.set i (refRow (rows[i]'hi) n note)).map RowD.b = rows.map RowD.b := by
        apply List.ext_getElem (by simp)
        intro j h1 h2
        simp only [List.getElem_map, List.getElem_set]
        split
        · rename_i e; subst e; rfl
        · rfl
      rw [e]
      exact h5
  · rename_i hro
    obtain ⟨rfl, rfl⟩ := hv
    refine ⟨(), M, StW.mono (W := []) (by simp) (StW.refl _ _ _), by rw [Bool.not_eq_true] at hro; rw [hro]; rfl, ?_⟩
    rw [if_neg hro]
    exact ⟨h4, h5⟩⟩
theorem t_loadAgg {x : Operand} {b tag : Nat} {cs z : List Value} {t e : TypeId} {by' sz : Nat} (key : Nat) (hT : TD P t sz by' true z) (hx : topP G x = some (pCe b 0) := by rfl) (hg : tlook G key = some (.bx b tag cs e) := by rfl) (hl : cs.length = sz := by rfl) :
    TOp P N ⟨d, .load t x, ty, pos, aft, g⟩ G [] (.pu (pv (.agg cs.toArray))) := .pure [x] (by simp [Op.operands]) fun {B M w fr} hf => by
  obtain ⟨_, k0, rfl⟩ := hf.op hx (by simp)
  obtain ⟨_, hbx⟩ := hf.out key _ hg (.inl rfl)
  refine op_loadn hT k0 hbx (by omega) ⟨rfl, ?_⟩
  rw [List.drop_zero, List.take_of_length_le (by omega)]
  rfl
theorem t_stAg {x y : Operand} {b tag : Nat} {cs c z : List Value} {t e : TypeId} {sz by' : Nat} (key : Nat) (hT : TD P t sz by' true z) (h1 : ∀ u ∈ c, u.oneCell' = true) (hx : topP G x = some (pCe b 0) := by rfl) (hg : tlook G key = some (.bx b tag cs e) := by rfl) (hy : topP G y = some (pv (.agg c.toArray)) := by rfl)
    (hs : c.length = sz := by rfl) (hl : c.length = cs.length := by rfl) :
    TOp P N ⟨d, .store t x y, ty, pos, aft, g⟩ G [tag] (.bx b tag c e) := ⟨[x, y], by simp [Op.operands], fun {M0 w0 M w fr} hr hf => by
  obtain ⟨_, k0, rfl⟩ := hf.op hx (by simp)
  obtain ⟨_, k1, rfl⟩ := hf.op hy (by simp)
  obtain ⟨hB, hbx⟩ := hf.out key _ hg (.inl rfl)
  refine op_store hT k0 k1 (c := c) (by simp [Value.cells]) h1 hs hr hB hbx (by omega) fun w' hb' hst => ⟨M, StW.st hst, hB, ?_⟩
  have hsp : splice cs 0 c = c := by
    unfold splice
    rw [List.take_zero, List.nil_append, List.drop_of_length_le (by omega), List.append_nil]
  rwa [hsp] at hb'⟩
end
instance focTx0 : FOc Tryd.prog 25 0 0 := ⟨fdT0⟩
instance focTx1 : FOc Tryd.prog 25 1 1 := ⟨fdT1⟩
instance t1cSSW : T1c Tryd.prog 23 := ⟨24, _, tdSSW⟩
end Go.Proofs.YtedlipgopicijaaDoor
end

section
namespace Go.Proofs.YtedlipgopicijaaDoor
open Go Go.RowKit
def row0 (l : List Int) (j : Nat) : List Wd := partM (pickM l (2 + j) 1000000) 40
def paras0 (l : List Int) : List (List Wd) := (List.range ((pickM l 0 4).toNat + 1)).map (row0 l)
def findK (ps : List (List Wd)) : Nat → Nat → Option Nat
  | _, 0 => none
  | k, f + 1 => if refOk ((ps[k]?).getD []) (lastM ps k) = true then some k else findK ps (k + 1) f
def putRef (ws : List Wd) (n note : Int) : List Wd := ws.set (refAt ws n) { (ws[refAt ws n]?).getD ⟨emp, emp, 0, 0⟩ with note := note }
def noteStep (t : Tx) (n : Int) : Tx := match findK t.paras 0 t.paras.length with
  | none => t
  | some k => ⟨t.paras.set k (putRef ((t.paras[k]?).getD []) n (t.notes.length + 1)), t.notes ++ [partM n 12]⟩
def textN (l : List Int) (c : Nat) : Tx := (List.range c).foldl (fun t (i : Nat) => noteStep t (pickM l (6 + i) 1000000)) ⟨paras0 l, []⟩
def textM (l : List Int) : Tx := textN l (pickM l 1 4).toNat
theorem textN_succ (l : List Int) (c : Nat) : textN l (c + 1) = noteStep (textN l c) (pickM l (6 + c) 1000000) := by
  unfold textN
  rw [List.range_succ, List.foldl_append]; rfl
def TxOk (B : Nat) (M : Mut) (w : World) (tag : Nat) (rows nrows : List RowD) (v : Value) : Prop :=
  (∃ pv nv, v = .agg #[pv, nv] ∧ SlOf eRaw M w pv (rows.map RowD.v) ∧ SlOf eRaw M w nv (nrows.map RowD.v)) ∧ (rowsG tag (rows ++ nrows)).p B M w undef
def RetTx (M0 : Mut) (w0 : World) (t : Tx) : Value → World → Prop := fun v w =>
  Below w0.heap.size w0 w ∧ ∀ tag, ∃ M', UpM M0 w0 M' w ∧ ∃ rows nrows, rows.map RowD.ws = t.paras ∧ nrows.map RowD.ws = t.notes ∧ TxOk w0.heap.size M' w tag rows nrows v
structure FnTx (P : Program) (g : FuncId) (Ps : List Pub) (t : Tx) : Prop where
  ent : Ent P g
  run : ∀ M w vs, MB M w → Lays M w → FitL M w Ps vs → CallsV P g vs w (RetTx M w t)
theorem fnTx_of {P : Program} {f : FuncId} {N : Nat} {fn : Func} {c : Code} {Ps : List Pub} {t : Tx} (he : Ent P f) (hf : P.funcs[f]? = some fn) (hb : fn.body = some c) (hN : fn.ntmps = N) (hn : Nat.ble Ps.length N = true)
    (h : ∀ M0 w0, Rt P f N M0 w0 [.code c] (argTF 0 Ps) (RetTx M0 w0 t)) : FnTx P f Ps t := ⟨he, fun M w vs hm hl hv => by
  have hlen := hv.len
  exact callsV_of_run hf hb hN (by rw [hlen]; exact Nat.le_of_ble_eq_true hn) ((h M w).out (Rn.refl hm) (fit_args hl 0 hv))⟩
section
variable {P : Program} {f : FuncId} {N : Nat} {M0 : Mut} {w0 : World} {R : Value → World → Prop} {G : TF} {k : List Item}
theorem c_gvSl {todo : List Item} {α : Type} {E : Enc α} {v : Value} {l : List α} {tag : Nat} {e : TypeId} (key : Nat) (h : v.oneCell' = true → Rt P f N M0 w0 todo G R) (hg : tlook G key = some (.gv v E l tag e) := by rfl) : Rt P f N M0 w0 todo G R := ⟨fun hr hf => by
  obtain ⟨h1, _⟩ := hf.out key _ hg (.inr trivial)
  obtain ⟨a, cap, e, _⟩ := h1.ex
  exact (h (by rw [e]; rfl)).out hr hf⟩
theorem c_retTx {fn : Func} {t b tag tg e1 e2 tb tn : Nat} {e : TypeId} {pv nv : Value} {rows nrows : List RowD} {tx : Tx} (hf : Tryd.prog.funcs[f]? = some fn) (hr : fn.results = #[.cell t 25]) (key kp kn kr : Nat) (h1 : rows.map RowD.ws = tx.paras) (h2 : nrows.map RowD.ws = tx.notes)
    (hp : topP G (.tmp t) = some (pCe b 0) := by rfl) (hg : tlook G key = some (.bx b tag [pv, nv] e) := by rfl) (hgp : tlook G kp = some (.gv pv eRaw (rows.map RowD.v) tb e1) := by rfl) (hgn : tlook G kn = some (.gv nv eRaw (nrows.map RowD.v) tn e2) := by rfl) (hgr : tlook G kr = some (.gh (rowsG tg (rows ++ nrows))) := by rfl) :
    Rt Tryd.prog f N M0 w0 (.code .ret :: k) G (RetTx M0 w0 tx) := ⟨fun {M w fr} hrn hfit => by
  obtain ⟨v, q1, rfl⟩ := hfit.op0 hp (fun _ _ => trivial)
  obtain ⟨hB, hbx⟩ := hfit.out key _ hg (.inr trivial)
  obtain ⟨p1, _⟩ := hfit.out kp _ hgp (.inr trivial)
  obtain ⟨n1, _⟩ := hfit.out kn _ hgn (.inr trivial)
  obtain ⟨r1, r2⟩ := hfit.out kr _ hgr (.inr trivial)
  refine run_retc hf hr q1 tdT hbx rfl ⟨hrn.bel, fun tag' => ?_⟩
  refine ⟨fun c => if c ∈ (rows ++ nrows).map RowD.b then some (0, tag') else M0 c, ⟨hrn.bel, fun c hc => ?_, fun hmb c hc => ?_⟩, rows, nrows, h1, h2, ⟨pv, nv, rfl, ?_, ?_⟩, fun r hr' => ⟨(r1 r hr').ge, (r1 r hr').at_, ?_⟩, r2⟩
  · rw [if_neg]
    intro hm
    obtain ⟨r, hr', e⟩ := List.mem_map.1 hm
    have := (r1 r hr').ge
    omega
  · rw [if_neg]
    · exact hmb c (Nat.le_trans hrn.bel.size hc)
    · intro hm
      obtain ⟨r, hr', e⟩ := List.mem_map.1 hm
      have := (r1 r hr').at_.lt
      omega
  · refine p1.mono ⟨fun a u hc => ⟨hc.1, fun p hp => ?_⟩⟩
    simp only at hp
    split at hp
    · rename_i hm
      obtain ⟨r, hr', e⟩ := List.mem_map.1 hm
      have := hc.2 _ (e ▸ (r1 r hr').mark)
      exact absurd this (Nat.not_lt_zero _)
    · exact (hrn.fin.cell a u hc).2 p hp
  · refine n1.mono ⟨fun a u hc => ⟨hc.1, fun p hp => ?_⟩⟩
    simp only at hp
    split at hp
    · rename_i hm
      obtain ⟨r, hr', e⟩ := List.mem_map.1 hm
      have := hc.2 _ (e ▸ (r1 r hr').mark)
      exact absurd this (Nat.not_lt_zero _)
    · exact (hrn.fin.cell a u hc).2 p hp
  · rw [if_pos (List.mem_map.2 ⟨r, hr', rfl⟩)]⟩
end
theorem FnTx.fn {P : Program} {g : FuncId} {Ps : List Pub} {t : Tx} (h : FnTx P g Ps t) : Fn P g Ps (pV eText t) := ⟨h.ent, fun M w vs hm hl hf => (h.run M w vs hm hl hf).mono fun v w' ⟨hb, hv⟩ => by
  obtain ⟨M', hup, rows, nrows, e1, e2, ⟨pv, nv, rfl, p1, n1⟩, r1, r2⟩ := hv 0
  have hfin : X M' w' M w' := (Rn.up (Rn.refl hm) hup).fin
  have hM : ∀ r ∈ rows ++ nrows, RowAt w' r ∧ M r.b = none := fun r hr => ⟨(r1 r hr).at_, hm _ (r1 r hr).ge⟩
  have q1 := rows_read p1 hfin (fun r hr => hM r (List.mem_append_left _ hr))
  have q2 := rows_read n1 hfin (fun r hr => hM r (List.mem_append_right _ hr))
  rw [e1] at q1
  rw [e2] at q2
  exact ⟨⟨[pv, nv], ⟨[pv], [nv], rfl, ⟨pv, rfl, q1⟩, ⟨nv, rfl, q2⟩⟩, rfl⟩, hb⟩⟩
end Go.Proofs.YtedlipgopicijaaDoor
end
