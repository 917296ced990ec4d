/-
  The calculus with typed frames: the rules for code, loops, and regions that draw their order.
-/
import Derived.Test.YtocoinkhbjlbhaaKit8
namespace Go.Proofs.Ytocoinkhbjlbhaa
open Go Go.RowKit

section
variable (P : Program) (f : FuncId) (N : Nat) (M0 : Mut) (w0 : World)

structure Rt (todo : List Item) (G : TF) (R : Value → World → Prop) : Prop where
  out : ∀ {M w fr}, Rn M0 w0 M w → Fit w0.heap.size M w fr G → Run P f N todo fr w R
structure RLt (ops : Array Oper) (k : List Item) (R : Value → World → Prop) (l : List Oper) (G : TF) : Prop where
  out : ∀ {M w fr}, Rn M0 w0 M w → Fit w0.heap.size M w fr G → RL P f N ops k R l fr w
/-- The rest of a region that draws its order. -/
structure RTt (ops : Array Oper) (k : List Item) (R : Value → World → Prop) (n : Nat) (listed : Array Bool) (G : TF) : Prop where
  out : ∀ {M w fr}, Rn M0 w0 M w → Fit w0.heap.size M w fr G → RT P f N ops k R n listed fr w
end

/-- What the caller is handed back. -/
def RetR (M0 : Mut) (w0 : World) (Q : Pub) : Value → World → Prop := fun v w => Q.p M0 w v ∧ Below w0.heap.size w0 w

/-- In every frame that is as G says the slot t is of kind T. -/
def Has (G : TF) (t : Nat) (T : Kd) : Prop := ∀ {B M w fr}, Fit B M w fr G → T.E B M w fr t
def SubT : TF → TF → Prop
  | [], _ => True
  | (t, T) :: r, G => Has G t T ∧ SubT r G

theorem SubT.fit {B : Nat} {M : Mut} {w : World} {fr : Fr} {G : TF} (hf : Fit B M w fr G) : ∀ {F : TF}, SubT F G → Fit B M w fr F
  | [], _ => ⟨fun t T h _ => by cases h⟩
  | (k, U) :: r, h => ⟨fun t T hT _ => by
    by_cases e : k = t
    · subst e
      rw [tlook_eq] at hT
      cases hT
      exact h.1 hf
    · rw [tlook_ne _ _ e] at hT
      exact (SubT.fit hf h.2).out t T hT (.inr trivial)⟩

section
variable {G : TF} {t : Nat}
theorem has_rfl {T : Kd} (h : tlook G t = some T) : Has G t T := fun hf => hf.out t T h (.inr trivial)
theorem has_nil {α : Type} {E : Enc α} {tag : Nat} {e : TypeId} (h : tlook G t = some (.pu (pv (.slice none 0 0)))) : Has G t (.gr E [] tag e) := fun hf => by
  obtain ⟨v, h1, rfl⟩ := hf.out t _ h (.inr trivial)
  exact ⟨_, h1, SlOf.nil _ _ _, Grow.nil⟩
theorem has_nilS {α : Type} {E : Enc α} (h : tlook G t = some (.pu (pv (.slice none 0 0)))) : Has G t (.pu (pSl E [])) := fun hf => by
  obtain ⟨v, h1, rfl⟩ := hf.out t _ h (.inr trivial)
  exact ⟨_, h1, SlOf.nil _ _ _⟩
theorem has_gr {α : Type} {E : Enc α} {l : List α} {tag : Nat} {e : TypeId} (h : tlook G t = some (.gr E l tag e)) : Has G t (.pu (pSl E l)) := fun hf => by
  obtain ⟨v, h1, h2, _⟩ := hf.out t _ h (.inr trivial)
  exact ⟨v, h1, h2⟩
theorem has_int {k : IntKind} {m n : Int} (h : tlook G t = some (.pu (pK k m))) (e : m = n) : Has G t (.pu (pK k n)) := e ▸ has_rfl h
theorem has_sl {α : Type} {E : Enc α} {l l' : List α} (h : tlook G t = some (.pu (pSl E l))) (e : l = l') : Has G t (.pu (pSl E l')) := e ▸ has_rfl h
theorem has_grE {α : Type} {E : Enc α} {l l' : List α} {tag : Nat} {ty : TypeId} (h : tlook G t = some (.gr E l tag ty)) (e : l = l') : Has G t (.gr E l' tag ty) := e ▸ has_rfl h
theorem has_bool {b b' : Bool} (h : tlook G t = some (.pu (pB b))) (e : b = b') : Has G t (.pu (pB b')) := e ▸ has_rfl h
theorem has_pub {p q : Pub} (h : tlook G t = some (.pu p)) (e : ∀ {M w v}, p.p M w v → q.p M w v) : Has G t (.pu q) := fun hf => by
  obtain ⟨v, h1, h2⟩ := hf.out t _ h (.inr trivial)
  exact ⟨v, h1, e h2⟩
end

section
variable {P : Program} {f : FuncId} {N : Nat} {M0 : Mut} {w0 : World} {R : Value → World → Prop} {G : TF} {k : List Item}

theorem Rt.sub {todo : List Item} {F : TF} (h : Rt P f N M0 w0 todo F R) (hs : SubT F G) : Rt P f N M0 w0 todo G R := ⟨fun hr hf => h.out hr (hs.fit hf)⟩

theorem c_seq {x y : Code} (h : Rt P f N M0 w0 (.code x :: .code y :: k) G R) : Rt P f N M0 w0 (.code (.seq x y) :: k) G R := ⟨fun hr hf => run_seq (h.out hr hf)⟩
theorem c_skip (h : Rt P f N M0 w0 k G R) : Rt P f N M0 w0 (.code .skip :: k) G R := ⟨fun hr hf => run_skip (h.out hr hf)⟩
theorem c_label {l : Nat} (h : Rt P f N M0 w0 k G R) : Rt P f N M0 w0 (.code (.label l) :: k) G R := ⟨fun hr hf => run_label (h.out hr hf)⟩
theorem c_block {id : Nat} {c : Code} (h : Rt P f N M0 w0 (.code c :: .inBlock id :: k) G R) : Rt P f N M0 w0 (.code (.block id c) :: k) G R := ⟨fun hr hf => run_block (h.out hr hf)⟩
theorem c_inBlock {id : Nat} (h : Rt P f N M0 w0 k G R) : Rt P f N M0 w0 (.inBlock id :: k) G R := ⟨fun hr hf => run_inBlock (h.out hr hf)⟩
theorem c_exit {id : Nat} {k' : List Item} (h : Rt P f N M0 w0 k' G R) (hk : exitTo id k = some k' := by rfl) : Rt P f N M0 w0 (.code (.exit id) :: k) G R := ⟨fun hr hf => run_exit hk (h.out hr hf)⟩
theorem c_true {c : Operand} {x y : Code} (h : Rt P f N M0 w0 (.code x :: k) G R) (hc : topP G c = some (pB true) := by rfl) : Rt P f N M0 w0 (.code (.cond c x y) :: k) G R := ⟨fun hr hf => by
  obtain ⟨_, h1, rfl⟩ := hf.op0 hc (fun _ _ => trivial)
  exact run_true h1 (h.out hr hf)⟩
theorem c_false {c : Operand} {x y : Code} (h : Rt P f N M0 w0 (.code y :: k) G R) (hc : topP G c = some (pB false) := by rfl) : Rt P f N M0 w0 (.code (.cond c x y) :: k) G R := ⟨fun hr hf => by
  obtain ⟨_, h1, rfl⟩ := hf.op0 hc (fun _ _ => trivial)
  exact run_false h1 (h.out hr hf)⟩
theorem c_if {c : Operand} {x y : Code} {p : Prop} [Decidable p] (ht : p → Rt P f N M0 w0 (.code x :: k) G R) (hf : ¬ p → Rt P f N M0 w0 (.code y :: k) G R) (hc : topP G c = some (pB (decide p)) := by rfl) :
    Rt P f N M0 w0 (.code (.cond c x y) :: k) G R := by
  by_cases h : p
  · exact c_true (ht h) (by rw [hc, decide_eq_true h])
  · exact c_false (hf h) (by rw [hc, decide_eq_false h])
theorem c_ifb {c : Operand} {x y : Code} {b : Bool} (ht : b = true → Rt P f N M0 w0 (.code x :: k) G R) (hf : b = false → Rt P f N M0 w0 (.code y :: k) G R) (hc : topP G c = some (pB b) := by rfl) :
    Rt P f N M0 w0 (.code (.cond c x y) :: k) G R := by
  cases b
  · exact c_false (hf rfl) hc
  · exact c_true (ht rfl) hc

/-- A loop: 'F x' is the frame, 'J x' what is known, at the head of a round. -/
theorem c_loop {α : Type} {c : Code} (F : α → TF) (J : α → Prop) (μ : α → Nat) (x0 : α) (h0 : J x0) (hs : SubT (F x0) G)
    (round : ∀ x, J x → (∀ y, J y → μ y < μ x → Rt P f N M0 w0 (.inLoop c :: k) (F y) R) → Rt P f N M0 w0 (.code c :: .inLoop c :: k) (F x) R) :
    Rt P f N M0 w0 (.code (.loop c) :: k) G R := by
  have key : ∀ n x, μ x = n → J x → Rt P f N M0 w0 (.code c :: .inLoop c :: k) (F x) R := by
    intro n
    induction n using Nat.strongRecOn with
    | _ n ih =>
      intro x hn hJ
      refine round x hJ fun y hJ' hlt => ⟨fun hr hf => ?_⟩
      exact ⟨fun a ha => (((ih (μ y) (hn ▸ hlt) y rfl hJ').out hr hf).out a ha).step fun _ _ => .one step_inLoop⟩
  exact ⟨fun hr hf => ⟨fun a ha => (((key _ x0 rfl h0).out hr (hs.fit hf)).out a ha).step fun _ _ => .one step_loop⟩⟩

theorem c_reg {id : Nat} {l : List Oper} (h : RLt P f N M0 w0 l.toArray k R l G) : Rt P f N M0 w0 (.code (.region id l.toArray false) :: k) G R := ⟨fun hr hf => run_region_l (h.out hr hf)⟩

theorem c_ret1 {fn : Func} {t : Nat} {p Q : Pub} (hf : P.funcs[f]? = some fn) (hr : fn.results = #[.tmp t]) (h : ∀ {M w v}, p.p M w v → Q.p M w v) (hp : topP G (.tmp t) = some p := by rfl) :
    Rt P f N M0 w0 (.code .ret :: k) G (RetR M0 w0 Q) := ⟨fun {M w fr} hrn hfit => by
  obtain ⟨v, h1, h2⟩ := hfit.op0 hp (fun _ _ => trivial)
  exact run_ret1 hf hr h1 ⟨Q.mono hrn.fin (h h2), hrn.bel⟩⟩
theorem c_end1 {fn : Func} {t : Nat} {p Q : Pub} (hf : P.funcs[f]? = some fn) (hr : fn.results = #[.tmp t]) (h : ∀ {M w v}, p.p M w v → Q.p M w v) (hp : topP G (.tmp t) = some p := by rfl) :
    Rt P f N M0 w0 [] G (RetR M0 w0 Q) := ⟨fun {M w fr} hrn hfit => by
  obtain ⟨v, h1, h2⟩ := hfit.op0 hp (fun _ _ => trivial)
  exact run_end1 hf hr h1 ⟨Q.mono hrn.fin (h h2), hrn.bel⟩⟩
theorem c_ret2 {fn : Func} {t u : Nat} {p q Q : Pub} (hf : P.funcs[f]? = some fn) (hr : fn.results = #[.tmp t, .tmp u]) (h : ∀ {M w v x}, p.p M w v → q.p M w x → Q.p M w (.tuple #[v, x])) (hp : topP G (.tmp t) = some p := by rfl) (hq : topP G (.tmp u) = some q := by rfl) :
    Rt P f N M0 w0 (.code .ret :: k) G (RetR M0 w0 Q) := ⟨fun {M w fr} hrn hfit => by
  obtain ⟨v, h1, h2⟩ := hfit.op0 hp (fun _ _ => trivial)
  obtain ⟨x, h3, h4⟩ := hfit.op0 hq (fun _ _ => trivial)
  exact run_ret2 hf hr h1 h3 ⟨Q.mono hrn.fin (h h2 h4), hrn.bel⟩⟩
theorem c_ret3 {fn : Func} {t u s : Nat} {p q r Q : Pub} (hf : P.funcs[f]? = some fn) (hr : fn.results = #[.tmp t, .tmp u, .tmp s]) (h : ∀ {M w v x y}, p.p M w v → q.p M w x → r.p M w y → Q.p M w (.tuple #[v, x, y]))
    (hp : topP G (.tmp t) = some p := by rfl) (hq : topP G (.tmp u) = some q := by rfl) (hs : topP G (.tmp s) = some r := by rfl) :
    Rt P f N M0 w0 (.code .ret :: k) G (RetR M0 w0 Q) := ⟨fun {M w fr} hrn hfit => by
  obtain ⟨v, h1, h2⟩ := hfit.op0 hp (fun _ _ => trivial)
  obtain ⟨x, h3, h4⟩ := hfit.op0 hq (fun _ _ => trivial)
  obtain ⟨y, h5, h6⟩ := hfit.op0 hs (fun _ _ => trivial)
  exact run_ret3 hf hr h1 h3 h5 ⟨Q.mono hrn.fin (h h2 h4 h6), hrn.bel⟩⟩

/-- A return of a struct that lies in a variable. -/
theorem c_retC {α : Type} {E : Enc α} {fn : Func} {t u : Nat} {b tag : Nat} {x : α} {e : TypeId} {Q : Pub} (hf : P.funcs[f]? = some fn) (hr : fn.results = #[.cell t u]) (key : Nat) (h : ∀ {M w v}, E.V M w v x → Q.p M w v) (ha : E.agg = true := by rfl)
    (hp : topP G (.tmp t) = some (pRo b E 0) := by rfl) (hg : tlook G key = some (.rw b tag E [x] e) := by rfl) (hE : TEc P u E := by infer_instance) : Rt P f N M0 w0 (.code .ret :: k) G (RetR M0 w0 Q) := ⟨fun {M w fr} hrn hfit => by
  obtain ⟨v, h1, h2⟩ := hfit.op0 hp (fun _ _ => trivial)
  obtain ⟨hB, css, hc, hbx⟩ := hfit.out key _ hg (.inr trivial)
  obtain ⟨z, hz, hT⟩ := hE.out
  rw [ha] at hT
  have hlen := hc.len
  obtain ⟨cs, r, e1, hR, hr2⟩ := hc
  cases hr2
  rw [List.append_nil] at e1
  subst e1
  have h3 : v = .pointer (some ⟨b, 0, none⟩) := by rw [show v = _ from h2]; simp
  refine run_retc hf hr (h1.trans (by rw [h3])) hT hbx (by simpa using hlen) ⟨Q.mono hrn.fin (h ⟨_, hR, by rw [ha]; rfl⟩), hrn.bel⟩⟩
/-- Facts out of a slot. -/
theorem c_have {todo : List Item} (t : Nat) {q : Pub} {φ : Prop} (hq : ∀ {M w v}, q.p M w v → φ) (h : φ → Rt P f N M0 w0 todo G R) (ht : topP G (.tmp t) = some q := by rfl) : Rt P f N M0 w0 todo G R := ⟨fun hr hf => by
  obtain ⟨v, _, h2⟩ := hf.op0 ht (fun _ _ => trivial)
  exact (h (hq h2)).out hr hf⟩
theorem c_ex {todo : List Item} {α : Type} (t : Nat) {q : α → Pub} (h : ∀ a, Rt P f N M0 w0 todo ((t, .pu (q a)) :: G) R) (ht : topP G (.tmp t) = some (pEx q) := by rfl) : Rt P f N M0 w0 todo G R := ⟨fun hr hf => by
  obtain ⟨v, h1, a, h2⟩ := hf.op0 ht (fun _ _ => trivial)
  exact (h a).out hr (hf.hide ⟨v, h1, h2⟩)⟩
theorem c_and {todo : List Item} (t : Nat) {φ : Prop} {q : Pub} (h : φ → Rt P f N M0 w0 todo ((t, .pu q) :: G) R) (ht : topP G (.tmp t) = some (pAnd φ q) := by rfl) : Rt P f N M0 w0 todo G R := ⟨fun hr hf => by
  obtain ⟨v, h1, h2, h3⟩ := hf.op0 ht (fun _ _ => trivial)
  exact (h h2).out hr (hf.hide ⟨v, h1, h3⟩)⟩
theorem c_to {todo : List Item} (t : Nat) (T : Kd) (hh : Has G t T) (h : Rt P f N M0 w0 todo ((t, T) :: G) R) : Rt P f N M0 w0 todo G R := ⟨fun hr hf => h.out hr (hf.hide (hh hf))⟩

/-! regions in order -/
section
variable {ops : Array Oper} {d : Nat} {op : Op} {ty : TypeId} {pos : String} {aft : Array Edge} {rest : List Oper} {T : Kd}

theorem c_rnil (h : Rt P f N M0 w0 k G R) : RLt P f N M0 w0 ops k R [] G := ⟨fun hr hf => rl_nil (h.out hr hf)⟩
theorem c_op (h : TOp P N ⟨some d, op, ty, pos, aft, none⟩ G [] T) (hk : RLt P f N M0 w0 ops k R rest ((d, T) :: G)) (hd : d < N := by decide) : RLt P f N M0 w0 ops k R (⟨some d, op, ty, pos, aft, none⟩ :: rest) G := ⟨fun hr hf =>
  rl_step hd ((h.fit hr hf).mono fun _ _ ⟨_, hs, hv⟩ => hk.out (hr.stw hs) ((hf.up hs).cons hv))⟩
theorem c_opW {W : List Nat} (h : TOp P N ⟨some d, op, ty, pos, aft, none⟩ G W T) (hk : RLt P f N M0 w0 ops k R rest ((d, T) :: dropW W G)) (hd : d < N := by decide) : RLt P f N M0 w0 ops k R (⟨some d, op, ty, pos, aft, none⟩ :: rest) G := ⟨fun hr hf =>
  rl_step hd ((h.fit hr hf).mono fun _ _ ⟨_, hs, hv⟩ => hk.out (hr.stw hs) ((hf.after hs).cons hv))⟩
theorem Kd.E_of_V {B : Nat} {M : Mut} {w : World} {v : Value} {fr : Fr} {t : Nat} {T : Kd} (hg : T.ghost = true) (h : T.V B M w v) : T.E B M w fr t := by
  cases T with
  | rw b tag E l e => exact h
  | bx b tag cs e => exact h
  | gv u E l tag e => exact h
  | _ => simp [Kd.ghost] at hg
theorem c_st (key : Nat) {W : List Nat} (h : TOp P N ⟨none, op, ty, pos, aft, none⟩ G W T) (hk : RLt P f N M0 w0 ops k R rest ((key, T) :: dropW W G)) (hg : T.ghost = true := by rfl) : RLt P f N M0 w0 ops k R (⟨none, op, ty, pos, aft, none⟩ :: rest) G := ⟨fun hr hf =>
  rl_step0 ((h.fit hr hf).mono fun _ _ ⟨_, hs, hv⟩ => hk.out (hr.stw hs) ((hf.after hs).hide (Kd.E_of_V hg hv)))⟩
theorem c_yes {j dj : Nat} {want : Bool} (h : RLt P f N M0 w0 ops k R (⟨some d, op, ty, pos, aft, none⟩ :: rest) G) (hj : (ops[j]?).bind (·.dst) = some dj := by rfl) (hg : topP G (.tmp dj) = some (pB want) := by rfl) :
    RLt P f N M0 w0 ops k R (⟨some d, op, ty, pos, aft, some (j, want)⟩ :: rest) G := ⟨fun hr hf => by
  obtain ⟨v, h1, rfl⟩ := hf.op0 hg (fun _ _ => trivial)
  exact rl_yes hj h1 (h.out hr hf)⟩
theorem c_no {j dj : Nat} {want b : Bool} (h : RLt P f N M0 w0 ops k R rest ((d, .no) :: G)) (hj : (ops[j]?).bind (·.dst) = some dj := by rfl) (hg : topP G (.tmp dj) = some (pB b) := by rfl) (hb : (b == want) = false := by rfl) (hd : d < N := by decide) :
    RLt P f N M0 w0 ops k R (⟨some d, op, ty, pos, aft, some (j, want)⟩ :: rest) G := ⟨fun hr hf => by
  obtain ⟨v, h1, rfl⟩ := hf.op0 hg (fun _ _ => trivial)
  exact rl_no hj h1 hb hd (h.out hr (hf.cons (T := .no) trivial))⟩
/-- Part on a test whose outcome is not known. -/
theorem c_part {l : List Oper} (t : Nat) {p : Prop} [Decidable p] (ht : p → RLt P f N M0 w0 ops k R l ((t, .pu (pB true)) :: G)) (hf : ¬ p → RLt P f N M0 w0 ops k R l ((t, .pu (pB false)) :: G)) (hc : topP G (.tmp t) = some (pB (decide p)) := by rfl) :
    RLt P f N M0 w0 ops k R l G := ⟨fun hr hfit => by
  obtain ⟨v, h1, h2⟩ := hfit.op0 hc (fun _ _ => trivial)
  by_cases h : p
  · rw [decide_eq_true h] at h2
    exact (ht h).out hr (hfit.hide ⟨v, h1, h2⟩)
  · rw [decide_eq_false h] at h2
    exact (hf h).out hr (hfit.hide ⟨v, h1, h2⟩)⟩
theorem c_partb {l : List Oper} (t : Nat) {b : Bool} (ht : b = true → RLt P f N M0 w0 ops k R l ((t, .pu (pB true)) :: G)) (hf : b = false → RLt P f N M0 w0 ops k R l ((t, .pu (pB false)) :: G)) (hc : topP G (.tmp t) = some (pB b) := by rfl) :
    RLt P f N M0 w0 ops k R l G := ⟨fun hr hfit => by
  obtain ⟨v, h1, h2⟩ := hfit.op0 hc (fun _ _ => trivial)
  cases b
  · exact (hf rfl).out hr (hfit.hide ⟨v, h1, h2⟩)
  · exact (ht rfl).out hr (hfit.hide ⟨v, h1, h2⟩)⟩
theorem r_have {l : List Oper} (t : Nat) {q : Pub} {φ : Prop} (hq : ∀ {M w v}, q.p M w v → φ) (h : φ → RLt P f N M0 w0 ops k R l G) (ht : topP G (.tmp t) = some q := by rfl) : RLt P f N M0 w0 ops k R l G := ⟨fun hr hf => by
  obtain ⟨v, _, h2⟩ := hf.op0 ht (fun _ _ => trivial)
  exact (h (hq h2)).out hr hf⟩
theorem r_ex {l : List Oper} {α : Type} (t : Nat) {q : α → Pub} (h : ∀ a, RLt P f N M0 w0 ops k R l ((t, .pu (q a)) :: G)) (ht : topP G (.tmp t) = some (pEx q) := by rfl) : RLt P f N M0 w0 ops k R l G := ⟨fun hr hf => by
  obtain ⟨v, h1, a, h2⟩ := hf.op0 ht (fun _ _ => trivial)
  exact (h a).out hr (hf.hide ⟨v, h1, h2⟩)⟩
theorem r_and {l : List Oper} (t : Nat) {φ : Prop} {q : Pub} (h : φ → RLt P f N M0 w0 ops k R l ((t, .pu q) :: G)) (ht : topP G (.tmp t) = some (pAnd φ q) := by rfl) : RLt P f N M0 w0 ops k R l G := ⟨fun hr hf => by
  obtain ⟨v, h1, h2, h3⟩ := hf.op0 ht (fun _ _ => trivial)
  exact (h h2).out hr (hf.hide ⟨v, h1, h3⟩)⟩
theorem r_to {l : List Oper} (t : Nat) (T : Kd) (hh : Has G t T) (h : RLt P f N M0 w0 ops k R l ((t, T) :: G)) : RLt P f N M0 w0 ops k R l G := ⟨fun hr hf => h.out hr (hf.hide (hh hf))⟩

/-- make([]T, n): a row that is to be written under a tag; its kind stands at 'key'. -/
theorem c_make {α : Type} {E : Enc α} {x y : Operand} {t e : TypeId} {k' k2 : IntKind} {n : Int} {x0 : α} {by' : Nat} (tag key : Nat)
    (hk : ∀ b, RLt P f N M0 w0 ops k R rest ((d, .pu (pSr b n.toNat)) :: (key, .rw b tag E (List.replicate n.toNat x0) e) :: G))
    (hx : topP G x = some (pK k' n) := by rfl) (hy : topP G y = some (pK k2 n) := by rfl) (ht : USl P t e := by infer_instance) (hE : TEc P e E := by infer_instance)
    (hz : ZEc P e E x0 := by infer_instance) (hb : BYc E by' := by infer_instance) (h0 : 0 ≤ n := by omega) (hl : by' * n.toNat ≤ 140737488351232 := by omega) (h63 : n ≤ 9223372036854775807 := by omega) (hd : d < N := by decide) :
    RLt P f N M0 w0 ops k R (⟨some d, .makeSlice t x y, ty, pos, aft, none⟩ :: rest) G := ⟨fun {M w fr} hr hf => by
  obtain ⟨_, k0, rfl, _⟩ := hf.op0 hx (fun _ _ => trivial)
  obtain ⟨_, k1, rfl, _⟩ := hf.op0 hy (fun _ _ => trivial)
  obtain ⟨z, z1, z2⟩ := hz.out
  have hlz : z.length = E.sz := E.len (z2 M w)
  refine rl_step hd (op_make tag ht.out z1 k0 k1 hr h0 (by rw [hb.out]; exact hl) h63 fun b w' M' hB hbx hup => ?_)
  refine (hk b).out (hr.up hup) (Fit.cons (Fit.hide (hf.up (StW.up hr.size hup)) ?_) rfl)
  refine ⟨hB, _, ?_, hbx⟩
  have := CSS.replicate (E := E) (z2 M' w') n.toNat
  rwa [← madeCells_flatten, hlz] at this⟩

/-- A variable in memory. -/
theorem c_alloc {α : Type} {E : Enc α} {e : TypeId} {x0 : α} (tag key : Nat) (hk : ∀ b, RLt P f N M0 w0 ops k R rest ((d, .pu (pRo b E 0)) :: (key, .rw b tag E [x0] e) :: G)) (hz : ZEc P e E x0 := by infer_instance) (hd : d < N := by decide) :
    RLt P f N M0 w0 ops k R (⟨some d, .alloc e, ty, pos, aft, none⟩ :: rest) G := ⟨fun {M w fr} hr hf => by
  obtain ⟨z, z1, z2⟩ := hz.out
  refine rl_step hd (op_alloc tag hr z1 fun b w' M' hB hbx hup => ?_)
  refine (hk b).out (hr.up hup) (Fit.cons (Fit.hide (hf.up (StW.up hr.size hup)) ?_) ?_)
  · exact ⟨hB, z, ⟨z, [], (List.append_nil z).symm, z2 M' w', rfl⟩, hbx⟩
  · simp [Kd.V, pRo, pv]⟩
theorem c_box {α : Type} {E : Enc α} {e : TypeId} {x : Operand} {p : Pub} {x0 : α} (tag key : Nat) (hk : ∀ b, RLt P f N M0 w0 ops k R rest ((d, .pu (pRo b E 0)) :: (key, .rw b tag E [x0] e) :: G)) (hx : topP G x = some p := by rfl) (hp : PEc p E x0 := by infer_instance) (hd : d < N := by decide) :
    RLt P f N M0 w0 ops k R (⟨some d, .box e x, ty, pos, aft, none⟩ :: rest) G := ⟨fun {M w fr} hr hf => by
  obtain ⟨v, k0, k1⟩ := hf.op0 hx (fun _ _ => trivial)
  obtain ⟨cs, c1, c2⟩ := hp.out k1
  refine rl_step hd (op_box (cs := cs) tag hr k0 (by rw [c2]; exact mkv_cells c1) fun b w' M' hB hbx hup => ?_)
  refine (hk b).out (hr.up hup) (Fit.cons (Fit.hide (hf.up (StW.up hr.size hup)) ?_) ?_)
  · exact ⟨hB, cs, ⟨cs, [], (List.append_nil cs).symm, E.mono c1 hup.x, rfl⟩, hbx⟩
  · simp [Kd.V, pRo, pv]⟩
end

/-- A row that is to be written: its block is given a name. -/
theorem c_row {todo : List Item} {α : Type} {E : Enc α} {l : List α} {tag : Nat} {e : TypeId} (t key : Nat) (h : ∀ b, Rt P f N M0 w0 todo ((t, .pu (pSr b l.length)) :: (key, .rw b tag E l e) :: G) R) (ht : tlook G t = some (.ow E l tag e) := by rfl) : Rt P f N M0 w0 todo G R := ⟨fun hr hf => by
  obtain ⟨b, h1, h2⟩ := hf.out t _ ht (.inr trivial)
  exact (h b).out hr (Fit.hide (Fit.hide (T := .rw b tag E l e) hf h2) ⟨_, h1, rfl⟩)⟩
theorem r_row {ops : Array Oper} {r : List Oper} {α : Type} {E : Enc α} {l : List α} {tag : Nat} {e : TypeId} (t key : Nat) (h : ∀ b, RLt P f N M0 w0 ops k R r ((t, .pu (pSr b l.length)) :: (key, .rw b tag E l e) :: G)) (ht : tlook G t = some (.ow E l tag e) := by rfl) : RLt P f N M0 w0 ops k R r G := ⟨fun hr hf => by
  obtain ⟨b, h1, h2⟩ := hf.out t _ ht (.inr trivial)
  exact (h b).out hr (Fit.hide (Fit.hide (T := .rw b tag E l e) hf h2) ⟨_, h1, rfl⟩)⟩
/-- A slice that may be appended to is given a name. -/
theorem r_name {ops : Array Oper} {l : List Oper} {α : Type} {E : Enc α} {ls : List α} {tag : Nat} {e : TypeId} (t key : Nat) (h : ∀ v, RLt P f N M0 w0 ops k R l ((t, .pu (pv v)) :: (key, .gv v E ls tag e) :: G)) (ht : tlook G t = some (.gr E ls tag e) := by rfl) : RLt P f N M0 w0 ops k R l G := ⟨fun hr hf => by
  obtain ⟨v, h1, h2⟩ := hf.out t _ ht (.inr trivial)
  exact (h v).out hr (Fit.hide (Fit.hide (T := .gv v E ls tag e) hf h2) ⟨v, h1, rfl⟩)⟩
theorem q_name {ops : Array Oper} {n : Nat} {listed : Array Bool} {α : Type} {E : Enc α} {ls : List α} {tag : Nat} {e : TypeId} (t key : Nat) (h : ∀ v, RTt P f N M0 w0 ops k R n listed ((t, .pu (pv v)) :: (key, .gv v E ls tag e) :: G)) (ht : tlook G t = some (.gr E ls tag e) := by rfl) : RTt P f N M0 w0 ops k R n listed G := ⟨fun hr hf => by
  obtain ⟨v, h1, h2⟩ := hf.out t _ ht (.inr trivial)
  exact (h v).out hr (Fit.hide (Fit.hide (T := .gv v E ls tag e) hf h2) ⟨v, h1, rfl⟩)⟩
/-- A nil slice may be appended to. -/
theorem c_nilV {todo : List Item} {α : Type} (E : Enc α) (tag : Nat) (e : TypeId) (key : Nat) (h : Rt P f N M0 w0 todo ((key, .gv (.slice none 0 0) E [] tag e) :: G) R) : Rt P f N M0 w0 todo G R := ⟨fun hr hf => h.out hr (Fit.hide (T := .gv (.slice none 0 0) E [] tag e) hf ⟨SlOf.nil _ _ _, Grow.nil⟩)⟩
/-- A variable in memory, cell by cell. -/
theorem c_allocB {ops : Array Oper} {d : Nat} {ty : TypeId} {pos : String} {aft : Array Edge} {rest : List Oper} {e : TypeId} {sz by' : Nat} {agg : Bool} {z : List Value} (tag key : Nat) (hT : TD P e sz by' agg z)
    (hk : ∀ b, RLt P f N M0 w0 ops k R rest ((d, .pu (pCe b 0)) :: (key, .bx b tag z e) :: G)) (hd : d < N := by decide) :
    RLt P f N M0 w0 ops k R (⟨some d, .alloc e, ty, pos, aft, none⟩ :: rest) G := ⟨fun {M w fr} hr hf => by
  refine rl_step hd (op_alloc tag hr hT fun b w' M' hB hbx hup => ?_)
  exact (hk b).out (hr.up hup) (Fit.cons (T := .pu (pCe b 0)) (Fit.hide (T := .bx b tag z e) (hf.up (StW.up hr.size hup)) ⟨hB, hbx⟩) rfl)⟩

/-- A row is written no more: it reads as a list from now on. -/
theorem c_frz {todo : List Item} {α : Type} {E : Enc α} {b tag n : Nat} {l : List α} {e : TypeId} {by' : Nat} (t key : Nat) (h : Rt P f N M0 w0 todo ((t, .pu (pSl E l)) :: (key, .no) :: dropW [tag] G) R)
    (ht : topP G (.tmp t) = some (pSr b n) := by rfl) (hg : tlook G key = some (.rw b tag E l e) := by rfl) (hb : BYc E by' := by infer_instance) (hn : n = l.length := by first | rfl | simp) (hl : n * by' ≤ 140737488351232 := by omega) : Rt P f N M0 w0 todo G R := ⟨fun {M w fr} hr hf => by
  obtain ⟨v, h1, rfl⟩ := hf.op0 ht (fun _ _ => trivial)
  obtain ⟨hB, css, h2, h3⟩ := hf.out key _ hg (.inr trivial)
  obtain ⟨k1, k2⟩ := h3.freeze h2 (by rw [hb.out, ← hn]; exact hl) hB
  have hs := StW.st k2
  refine h.out (hr.stw hs) (Fit.hide (Fit.hide (T := .no) (hf.after hs) trivial) ⟨_, h1, ?_⟩)
  rw [← hn] at k1
  exact k1⟩
end

section
variable {P : Program} {N : Nat} {G : TF} {d : Option Tmp} {ty : TypeId} {pos : String} {aft : Array Edge} {g : Option (Nat × Bool)}

/-- A store into a row. -/
theorem t_st {α : Type} {E : Enc α} {x y : Operand} {b tag i : Nat} {l : List α} {t e : TypeId} {p : Pub} {x' : α} (key : Nat) (hx : topP G x = some (pRo b E i) := by rfl) (hg : tlook G key = some (.rw b tag E l e) := by rfl) (hy : topP G y = some p := by rfl)
    (hp : PEc p E x' := by infer_instance) (hE : TEc P t E := by infer_instance) (hi : i < l.length := by first | omega | (simp; done) | (simp; omega)) :
    TOp P N ⟨d, .store t x y, ty, pos, aft, g⟩ G [tag] (.rw b tag E (l.set i x') e) := ⟨[x, y], by simp [Op.operands], fun {M0 w0 M w fr} hr hf => by
  obtain ⟨_, k0, rfl⟩ := hf.op hx (by simp)
  obtain ⟨v, k1, k2⟩ := hf.op hy (by simp)
  obtain ⟨hB, css, hc, hbx⟩ := hf.out key _ hg (.inl rfl)
  obtain ⟨z, hz, hT⟩ := hE.out
  obtain ⟨cs, c1, c2⟩ := hp.out k2
  have hcl := E.len c1
  have hle : i * E.sz + cs.length ≤ css.length := by
    rw [hcl, hc.len, ← Nat.succ_mul]
    exact Nat.mul_le_mul_right _ hi
  refine op_store hT k0 k1 (by rw [c2]; exact mkv_cells c1) (E.one c1) hcl hr hB hbx hle fun w' hb' hst => ⟨M, StW.st hst, hB, _, ?_, hb'⟩
  have := hc.update i hi 0 cs x' (fun cs0 h0 => by
    have hl0 := E.len h0
    unfold splice
    rw [List.take_zero, List.nil_append, List.drop_of_length_le (by omega), List.append_nil]
    exact c1) (by omega)
  rw [Nat.add_zero] at this
  exact this.mono hst.x⟩
/-- A store into a field of an element of a row. -/
theorem t_stF {α β : Type} {E : Enc α} {E' : Enc β} {x y : Operand} {b tag i off : Nat} {l : List α} {s t e : TypeId} {fd : Nat} {pr : α → β} {st : α → β → α} {p : Pub} {y' : β} (key : Nat) (hF : FDc P s fd E E' pr st) (hoff : FD P s fd off)
    (hx : topP G x = some (pRf b E i off) := by rfl) (hg : tlook G key = some (.rw b tag E l e) := by rfl) (hy : topP G y = some p := by rfl)
    (hp : PEc p E' y' := by infer_instance) (hE : TEc P t E' := by infer_instance) (hi : i < l.length := by first | omega | (simp; done) | (simp; omega)) :
    TOp P N ⟨d, .store t x y, ty, pos, aft, g⟩ G [tag] (.rw b tag E (l.set i (st l[i] y')) e) := ⟨[x, y], by simp [Op.operands], fun {M0 w0 M w fr} hr hf => by
  obtain ⟨_, k0, rfl⟩ := hf.op hx (by simp)
  obtain ⟨v, k1, k2⟩ := hf.op hy (by simp)
  obtain ⟨hB, css, hc, hbx⟩ := hf.out key _ hg (.inl rfl)
  obtain ⟨z, hz, hT⟩ := hE.out
  obtain ⟨cs, c1, c2⟩ := hp.out k2
  have hcl := E'.len c1
  obtain ⟨off', q1, q2, q3⟩ := hF.out
  have hoe : off' = off := by
    obtain ⟨fs, fd1, i1, a1, a2, a3, _⟩ := q1
    obtain ⟨fs2, fd2, i2, b1, b2, b3, _⟩ := hoff
    rw [a1] at b1
    cases b1
    rw [a2] at b2
    cases b2
    omega
  subst hoe
  obtain ⟨cs1, d1, _⟩ := hc.get i hi
  have hfit := (q3 d1 c1).1
  have hle : i * E.sz + off' + cs.length ≤ css.length := by
    have : i * E.sz + E.sz ≤ css.length := by
      rw [hc.len, ← Nat.succ_mul]
      exact Nat.mul_le_mul_right _ hi
    omega
  refine op_store hT k0 k1 (by rw [c2]; exact mkv_cells c1) (E'.one c1) hcl hr hB hbx hle fun w' hb' hst => ⟨M, StW.st hst, hB, _, ?_, hb'⟩
  exact (hc.update i hi off' cs (st l[i] y') (fun cs0 h0 => (q3 h0 c1).2) hfit).mono hst.x⟩
end

/-! ### Regions that draw their order -/

def raws (B : Nat) (L : TF) : List (Nat × Ty) := L.map fun p => (p.1, fun M w v => p.2.V B M w v)

/-- As G, and the slots that o looks at as L says (the last one that was added stands first). -/
theorem TyAll.of_fit {B : Nat} {M : Mut} {w : World} {φ : Fr → Prop} : ∀ (L : TF) {fr : Fr} {G : TF}, Fit B M w fr G → (∀ fr', Fit B M w fr' (L.reverse ++ G) → φ fr') → TyAll (raws B L) M w φ fr
  | [], fr, G, hf, h => h fr (by simpa using hf)
  | (d, T) :: r, fr, G, hf, h => fun v hv => by
    refine TyAll.of_fit r (hf.cons hv) fun fr' hf' => h fr' ?_
    simpa using hf'

theorem tlook_append {L G : TF} {t : Nat} : tlook (L ++ G) t = match tlook L t with | some T => some T | none => tlook G t := by
  induction L with
  | nil => rfl
  | cons p r ih =>
    obtain ⟨k, U⟩ := p
    by_cases e : k = t
    · subst e
      simp [tlook_eq]
    · rw [List.cons_append, tlook_ne _ _ e, tlook_ne _ _ e, ih]

theorem tlook_filter {S : Nat → Bool} {t : Nat} (hS : S t = true) : ∀ (L : TF), tlook (L.filter fun p => S p.1) t = tlook L t
  | [] => rfl
  | (k, U) :: r => by
    by_cases e : k = t
    · subst e
      rw [List.filter_cons_of_pos (by simpa using hS), tlook_eq, tlook_eq]
    · rw [tlook_ne _ _ e]
      rw [List.filter_cons]
      split
      · rw [tlook_ne _ _ e]; exact tlook_filter hS r
      · exact tlook_filter hS r

theorem seen_raws {B : Nat} {ops : Array Oper} {o : Oper} {L : TF} : seenBy ops o (raws B L) = raws B (L.filter fun p => (o.looksAt ops).any (Nat.beq p.1)) := by
  unfold seenBy raws
  rw [List.filter_map]
  rfl

section
variable (P : Program) (f : FuncId) (N : Nat) (M0 : Mut) (w0 : World)
/-- The operations of the first part of such a region. L: the kinds of those that went before, the last one first; G: the frame at its head. -/
structure DRt (pl : Plan) (ops : Array Oper) (k : List Item) (R : Value → World → Prop) (Wa : List Nat) (n : Nat) (listed : Array Bool) (G : TF) (l : List Oper) (L : TF) : Prop where
  out : ∀ {M1 w1 fr}, Rn M0 w0 M1 w1 → Fit w0.heap.size M1 w1 fr G →
    DR (RelW w0.heap.size) pl P N ops fr M1 w1 (fun Z => ∀ M' w', StW w0.heap.size Wa M1 w1 M' w' → TyAll Z M' w' (fun fr' => RT P f N ops k R n listed fr' w') fr) l (raws w0.heap.size L)
end

section
variable {P : Program} {f : FuncId} {N : Nat} {M0 : Mut} {w0 : World} {R : Value → World → Prop} {G L : TF} {k : List Item}

/-- A region that draws its order: its first m operations, which write under the tags of the plan alone; the other n. -/
theorem c_draw {id : Nat} {l : List Oper} (pl : Plan) (m n : Nat) (F : List Nat) (Wa : List Nat) (hm : P.follows .mixedOrders = true) (hok : drawOk N l.toArray m F pl = true) (hn : l.length = m + n) (hW : ran pl m (Array.replicate m true) = Wa)
    (h : DRt P f N M0 w0 pl l.toArray k R Wa n (Array.replicate m true ++ Array.replicate n false) G (l.take m) []) : Rt P f N M0 w0 (.code (.region id l.toArray true) :: k) G R := ⟨fun {M w fr} hr hf => by
  refine region_dg (M := M) (relW_ok w0.heap.size) pl m n F hm hn hok fun w1 hup => ?_
  have hr1 := hr.up hup
  have := h.out hr1 (hf.up (StW.up hr.size hup))
  subst hW
  exact this⟩

/-- The whole of a region whose operations write nothing that was there. -/
theorem c_draw0 {id : Nat} {l : List Oper} (hm : P.follows .mixedOrders = true) (hok : drawOk N l.toArray l.length [] {} = true) (h : DRt P f N M0 w0 {} l.toArray k R [] 0 (Array.replicate l.length true) G l []) :
    Rt P f N M0 w0 (.code (.region id l.toArray true) :: k) G R := by
  refine c_draw {} l.length 0 [] [] hm hok rfl ?_ ?_
  · apply List.eq_nil_iff_forall_not_mem.2
    intro t ht
    obtain ⟨j, _, _, hj⟩ := mem_ran.1 ht
    simp [Plan.t] at hj
  · rw [List.take_length]
    simpa using h

section
variable {pl : Plan} {ops : Array Oper} {Wa : List Nat} {n m : Nat} {listed : Array Bool} {l : List Oper} {d : Nat} {op : Op} {ty : TypeId} {pos : String} {aft : Array Edge} {T : Kd}

theorem dg_cons' {S : Rel} {Z : List (Nat × Ty)} {fr : Fr} {M1 : Mut} {w1 : World} {fin : List (Nat × Ty) → Prop} {gd : Option (Nat × Bool)} (T : Ty) (hd : d < N) (hT : Stab S (pl.o Z.length) T)
    (hob : Ob P N S (pl.b Z.length) (pl.t Z.length) ops fr M1 w1 ⟨some d, op, ty, pos, aft, gd⟩ Z.reverse T)
    (h : DR S pl P N ops fr M1 w1 fin l ((d, T) :: Z)) : DR S pl P N ops fr M1 w1 fin (⟨some d, op, ty, pos, aft, gd⟩ :: l) Z := by
  have := dg_cons (n := l.length) (l := l) T hd hT hob (by rw [List.take_length]; exact h)
  rwa [List.take_succ_cons, List.take_length] at this

theorem mem_looks {ops : Array Oper} {o : Oper} {t : Nat} (h : Operand.tmp t ∈ o.op.operands) : (o.looksAt ops).any (Nat.beq t) = true :=
  List.any_eq_true.2 ⟨t, List.mem_append_left _ (List.mem_filterMap.2 ⟨.tmp t, by simpa using h, rfl⟩), nbeq_self t⟩

theorem any_rev {o : Oper} {B : Nat} {M1 : Mut} {w1 : World} {fr : Fr} {W : List Nat} {M : Mut} {w : World} {φ : Fr → Prop} (hf : Fit B M1 w1 fr G) (hs : StW B W M1 w1 M w)
    (h : ∀ fr', Fit B M w fr' ((L.reverse.filter fun p => (o.looksAt ops).any (Nat.beq p.1)).reverse ++ dropW W G) → φ fr') : TyAll (seenBy ops o (raws B L).reverse) M w φ fr := by
  have e : (raws B L).reverse = raws B L.reverse := by unfold raws; rw [List.map_reverse]
  rw [e, seen_raws]
  exact TyAll.of_fit _ (hf.after hs) h

theorem looks_of {o : Oper} {t : Nat} {G' : TF} (h : (o.looksAt ops).any (Nat.beq t) = true) : tlook ((L.reverse.filter fun p => (o.looksAt ops).any (Nat.beq p.1)).reverse ++ G') t = tlook (L ++ G') t := by
  rw [tlook_append, tlook_append, ← List.filter_reverse, List.reverse_reverse, tlook_filter (S := fun t => (o.looksAt ops).any (Nat.beq t)) h]

/-- An operation without a guard, or whose guard lets it run. -/
theorem TOp.seen {o : Oper} {W : List Nat} {G' : TF} (h : TOp P N o (L ++ G') W T) (hG : ∀ t T, tlook L t = some T → T.ghost = false) {B : Nat} {M : Mut} {w : World} {fr : Fr} (hf : Fit B M w fr ((L.reverse.filter fun p => (o.looksAt ops).any (Nat.beq p.1)).reverse ++ G'))
    {M0 : Mut} {w0 : World} (hr : Rn M0 w0 M w) (hB : B = w0.heap.size) : OP P N o fr w (fun v w' => ∃ M', StW w0.heap.size W M w M' w' ∧ T.V w0.heap.size M' w' v) := by
  subst hB
  obtain ⟨xs, h1, h2⟩ := h.out
  refine h2 hr ⟨fun t T hT hc => ?_⟩
  rcases hc with hc | hc
  · -- a ghost: it stands in G'
    by_cases hs : (o.looksAt ops).any (Nat.beq t) = true
    · exact hf.out t T (by rw [looks_of hs]; exact hT) (.inr trivial)
    · have hL : tlook L t = none := by
        rw [tlook_append] at hT
        split at hT
        · rename_i U hU
          cases hT
          rw [hG t T hU] at hc
          cases hc
        · assumption
      refine hf.out t T ?_ (.inr trivial)
      rw [tlook_append, hL] at hT
      rw [tlook_append]
      have : tlook (L.reverse.filter fun p => (o.looksAt ops).any (Nat.beq p.1)).reverse t = none := by
        rw [← List.filter_reverse, List.reverse_reverse]
        clear hf h h1 h2 hG
        induction L with
        | nil => rfl
        | cons p r ih =>
          obtain ⟨q, U⟩ := p
          have hne : q ≠ t := fun e => by subst e; rw [tlook_eq] at hL; cases hL
          rw [tlook_ne _ _ hne] at hL
          rw [List.filter_cons]
          split
          · rw [tlook_ne _ _ hne]; exact ih hL
          · exact ih hL
      rw [this]
      exact hT
  · exact hf.out t T (by rw [looks_of (mem_looks (h1 _ hc))]; exact hT) (.inr trivial)

/-- None of them is a ghost. -/
def plain : TF → Bool
  | [] => true
  | (_, T) :: r => !T.ghost && plain r
theorem plain_spec : ∀ {L : TF}, plain L = true → ∀ t T, tlook L t = some T → T.ghost = false
  | [], _, t, T, h => by cases h
  | (q, U) :: r, hp, t, T, h => by
    simp only [plain, Bool.and_eq_true, Bool.not_eq_true'] at hp
    by_cases e : q = t
    · subst e
      rw [tlook_eq] at h
      cases h
      exact hp.1
    · rw [tlook_ne _ _ e] at h
      exact plain_spec hp.2 t T h

theorem d_op (h : TOp P N ⟨some d, op, ty, pos, aft, none⟩ (L ++ dropW (pl.b L.length) G) (pl.t L.length) T) (hk : DRt P f N M0 w0 pl ops k R Wa n listed G l ((d, T) :: L))
    (hp : plain L = true := by rfl) (hT : T.keep (pl.o L.length) = true := by rfl) (hd : d < N := by decide) : DRt P f N M0 w0 pl ops k R Wa n listed G (⟨some d, op, ty, pos, aft, none⟩ :: l) L := ⟨fun {M1 w1 fr} hr hf => by
  have hl : (raws w0.heap.size L).length = L.length := by simp [raws]
  refine dg_cons' (fun M w v => T.V w0.heap.size M w v) hd (fun M w M' w' v hs hv => Kd.V_keep hv hs (by rw [hl]; exact hT)) (fun M w hs => ?_) (hk.out hr hf)
  rw [hl] at hs
  refine any_rev hf hs fun fr' hf' => opg ?_
  rw [hl]
  exact h.seen (plain_spec hp) hf' (hr.stw hs) rfl⟩
theorem d_yes {j dj : Nat} {want : Bool} (h : TOp P N ⟨some d, op, ty, pos, aft, some (j, want)⟩ (L ++ dropW (pl.b L.length) G) (pl.t L.length) T) (hk : DRt P f N M0 w0 pl ops k R Wa n listed G l ((d, T) :: L))
    (hj : (ops[j]?).bind (·.dst) = some dj := by rfl) (hg : topP (L ++ dropW (pl.b L.length) G) (.tmp dj) = some (pB want) := by rfl)
    (hp : plain L = true := by rfl) (hT : T.keep (pl.o L.length) = true := by rfl) (hd : d < N := by decide) : DRt P f N M0 w0 pl ops k R Wa n listed G (⟨some d, op, ty, pos, aft, some (j, want)⟩ :: l) L := ⟨fun {M1 w1 fr} hr hf => by
  have hl : (raws w0.heap.size L).length = L.length := by simp [raws]
  refine dg_cons' (fun M w v => T.V w0.heap.size M w v) hd (fun M w M' w' v hs hv => Kd.V_keep hv hs (by rw [hl]; exact hT)) (fun M w hs => ?_) (hk.out hr hf)
  rw [hl] at hs
  refine any_rev hf hs fun fr' hf' => ?_
  have hm : (Oper.looksAt ops ⟨some d, op, ty, pos, aft, some (j, want)⟩).any (Nat.beq dj) = true := by
    refine List.any_eq_true.2 ⟨dj, List.mem_append_right _ ?_, nbeq_self dj⟩
    simp [hj]
  have hg' : topP ((L.reverse.filter fun p => (Oper.looksAt ops ⟨some d, op, ty, pos, aft, some (j, want)⟩).any (Nat.beq p.1)).reverse ++ dropW (pl.b L.length) G) (.tmp dj) = some (pB want) := by
    simp only [topP, looks_of hm]
    exact hg
  obtain ⟨v, h1, rfl⟩ := hf'.op0 hg' (fun _ _ => trivial)
  refine opg_yes hj h1 ?_
  rw [hl]
  exact h.seen (plain_spec hp) hf' (hr.stw hs) rfl⟩
theorem d_no {j dj : Nat} {want b : Bool} (hk : DRt P f N M0 w0 pl ops k R Wa n listed G l ((d, .no) :: L))
    (hj : (ops[j]?).bind (·.dst) = some dj := by rfl) (hg : topP (L ++ dropW (pl.b L.length) G) (.tmp dj) = some (pB b) := by rfl) (hb : (b == want) = false := by rfl)
    (hd : d < N := by decide) (ht : pl.t L.length = [] := by rfl) : DRt P f N M0 w0 pl ops k R Wa n listed G (⟨some d, op, ty, pos, aft, some (j, want)⟩ :: l) L := ⟨fun {M1 w1 fr} hr hf => by
  have hl : (raws w0.heap.size L).length = L.length := by simp [raws]
  refine dg_cons' (fun M w v => Kd.V w0.heap.size M w v .no) hd (fun M w M' w' v hs hv => trivial) (fun M w hs => ?_) (hk.out hr hf)
  rw [hl] at hs
  refine any_rev hf hs fun fr' hf' => ?_
  have hm : (Oper.looksAt ops ⟨some d, op, ty, pos, aft, some (j, want)⟩).any (Nat.beq dj) = true := by
    refine List.any_eq_true.2 ⟨dj, List.mem_append_right _ ?_, nbeq_self dj⟩
    simp [hj]
  have hg' : topP ((L.reverse.filter fun p => (Oper.looksAt ops ⟨some d, op, ty, pos, aft, some (j, want)⟩).any (Nat.beq p.1)).reverse ++ dropW (pl.b L.length) G) (.tmp dj) = some (pB b) := by
    simp only [topP, looks_of hm]
    exact hg
  obtain ⟨v, h1, rfl⟩ := hf'.op0 hg' (fun _ _ => trivial)
  refine opg_no hj h1 (fun e => by subst e; cases b <;> cases hb) ?_
  rw [hl, ht]
  exact ⟨M, StW.refl _ _ _, trivial⟩⟩
theorem d_nil (h : RTt P f N M0 w0 ops k R n listed (L ++ dropW Wa G)) : DRt P f N M0 w0 pl ops k R Wa n listed G [] L := ⟨fun {M1 w1 fr} hr hf => by
  refine ⟨?_⟩
  intro M' w' hs
  have e : (raws w0.heap.size L).reverse = raws w0.heap.size L.reverse := by unfold raws; rw [List.map_reverse]
  rw [e]
  refine TyAll.of_fit _ (hf.after hs) fun fr' hf' => ?_
  rw [List.reverse_reverse] at hf'
  exact h.out (hr.stw hs) hf'⟩

/-- The rest, where one operation can be next. -/
theorem q_nil (h : Rt P f N M0 w0 k G R) (hr : Region.ready .any ops listed = []) : RTt P f N M0 w0 ops k R n listed G := ⟨fun hrn hf => rt_nil hr (h.out hrn hf)⟩
theorem q_op (i : Nat) {W : List Nat} (hr : Region.ready .any ops listed = [i]) (ho : ops[i]? = some ⟨some d, op, ty, pos, aft, none⟩) (h : TOp P N ⟨some d, op, ty, pos, aft, none⟩ G W T)
    (hk : RTt P f N M0 w0 ops k R n (listed.setIfInBounds i true) ((d, T) :: dropW W G)) (hd : d < N := by decide) : RTt P f N M0 w0 ops k R (n + 1) listed G := ⟨fun hrn hf =>
  rt_one hr ho hd ((h.fit hrn hf).mono fun _ _ ⟨_, hs, hv⟩ => hk.out (hrn.stw hs) ((hf.after hs).cons hv))⟩
theorem q_st (i key : Nat) {W : List Nat} (hr : Region.ready .any ops listed = [i]) (ho : ops[i]? = some ⟨none, op, ty, pos, aft, none⟩) (h : TOp P N ⟨none, op, ty, pos, aft, none⟩ G W T)
    (hk : RTt P f N M0 w0 ops k R n (listed.setIfInBounds i true) ((key, T) :: dropW W G)) (hg : T.ghost = true := by rfl) : RTt P f N M0 w0 ops k R (n + 1) listed G := ⟨fun hrn hf =>
  rt_one0 hr ho ((h.fit hrn hf).mono fun _ _ ⟨_, hs, hv⟩ => hk.out (hrn.stw hs) ((hf.after hs).hide (Kd.E_of_V hg hv)))⟩
end
end

/-! ### Functions -/

def argTF : Nat → List Pub → TF
  | _, [] => []
  | i, p :: r => (i, .pu p) :: argTF (i + 1) r

theorem fit_args {B : Nat} {M : Mut} {w : World} : ∀ {Ps : List Pub} {vs : List Value} (i : Nat), FitL M w Ps vs → Fit B M w (argFr i vs) (argTF i Ps)
  | [], [], _, _ => ⟨fun t T h _ => by cases h⟩
  | p :: r, v :: s, i, h => by
    have := fit_args (B := B) (i + 1) h.2
    exact ⟨fun t T hT _ => by
      by_cases e : i = t
      · subst e
        rw [argTF, tlook_eq] at hT
        cases hT
        exact ⟨v, look_cons_eq _ _ _, h.1⟩
      · rw [argTF, tlook_ne _ _ e] at hT
        exact Kd.E_look (this.out t T hT (.inr trivial)) (by rw [argFr, look_cons_ne _ _ e])⟩
  | [], _ :: _, _, h => h.elim
  | _ :: _, [], _, h => h.elim

theorem FitL.len {M : Mut} {w : World} : ∀ {Ps : List Pub} {vs : List Value}, FitL M w Ps vs → vs.length = Ps.length
  | [], [], _ => rfl
  | _ :: _, _ :: _, h => by simp [h.2.len]
  | [], _ :: _, h => h.elim
  | _ :: _, [], h => h.elim

theorem fn_of {P : Program} {f : FuncId} {N : Nat} {fn : Func} {c : Code} {Ps : List Pub} {Q : Pub} (he : Ent P f) (hf : P.funcs[f]? = some fn) (hb : fn.body = some c) (hN : fn.ntmps = N) (hn : Nat.ble Ps.length N = true)
    (h : ∀ M0 w0, Rt P f N M0 w0 [.code c] (argTF 0 Ps) (RetR M0 w0 Q)) : Fn P f Ps Q := ⟨he, fun M w vs hm hv => by
  have hlen := hv.len
  exact callsV_of_run hf hb hN (by rw [hlen]; exact Nat.le_of_ble_eq_true hn) ((h M w).out (Rn.refl hm) (fit_args 0 hv))⟩

end Go.Proofs.Ytocoinkhbjlbhaa
