/-
  A small calculus for walking the loaded program: a frame as an association list, runs with an explicit stack of code, one law for each operation.
-/
import Derived.Calls
import Derived.Orders
import Derived.Below
import Derived.KernelRfl
import Derived.WalkKit
namespace Go.Proofs.Ytocoinkhbjlbhaa
open Go

/-! ### Frames -/

abbrev Fr := List (Nat × Value)

def look : Fr → Nat → Option Value
  | [], _ => none
  | (k, v) :: r, t => bif Nat.beq k t then some v else look r t

theorem look_cons_eq (k : Nat) (v : Value) (r : Fr) : look ((k, v) :: r) k = some v := by simp [look]
theorem look_cons_ne {k t : Nat} (v : Value) (r : Fr) (h : k ≠ t) : look ((k, v) :: r) t = look r t := by
  have : Nat.beq k t = false := by
    cases hb : Nat.beq k t
    · rfl
    · exact absurd (Nat.eq_of_beq_eq_true hb) h
  simp [look, this]

structure Rep (N : Nat) (fr : Fr) (a : Act) : Prop where
  size : a.tmps.size = N
  defers : a.defers = []
  slot : ∀ t v, look fr t = some v → a.tmps.getD t undef = v

/-- What an operand is. -/
def opv (fr : Fr) : Operand → Option Value
  | .tmp t => look fr t
  | .const v => some v
  | .global g => some (.pointer (some ⟨g, 0, none⟩))
  | .func f => some (.func (.func f) #[] #[])

theorem Rep.eval {N : Nat} {fr : Fr} {a : Act} (h : Rep N fr a) {x : Operand} {v : Value} (hx : opv fr x = some v) : a.eval x = v := by
  cases x with
  | tmp t => exact h.slot t v hx
  | const u => simpa [opv, Act.eval] using hx
  | global g => simpa [opv, Act.eval] using hx
  | func f => simpa [opv, Act.eval] using hx

theorem Rep.put {N : Nat} {fr : Fr} {a : Act} (h : Rep N fr a) {d : Nat} (v : Value) (hd : d < N) : Rep N ((d, v) :: fr) (a.put (some d) v) := by
  refine ⟨by simp [Act.put, h.size], h.defers, fun t u hu => ?_⟩
  by_cases e : d = t
  · subst e
    rw [look_cons_eq] at hu
    have : d < a.tmps.size := by rw [h.size]; exact hd
    simp only [Act.put, Option.some.injEq] at hu ⊢
    simp [hu, this]
  · rw [look_cons_ne _ _ e] at hu
    have h1 := h.slot t u hu
    simp only [Act.put]
    rw [← h1]
    simp [Array.getElem?_setIfInBounds_ne e]

theorem Rep.put_none {N : Nat} {fr : Fr} {a : Act} (h : Rep N fr a) (v : Value) : Rep N fr (a.put none v) := h

/-- All that fr' says, fr says. -/
def Sub : Fr → Fr → Prop
  | [], _ => True
  | (t, v) :: r, fr => look fr t = some v ∧ Sub r fr

theorem Sub.look {fr' fr : Fr} (h : Sub fr' fr) {t : Nat} {v : Value} (hv : look fr' t = some v) : look fr t = some v := by
  induction fr' with
  | nil => simp [Go.Proofs.Ytocoinkhbjlbhaa.look] at hv
  | cons p r ih =>
    obtain ⟨k, u⟩ := p
    by_cases e : k = t
    · subst e; rw [look_cons_eq] at hv; cases hv; exact h.1
    · rw [look_cons_ne _ _ e] at hv; exact ih h.2 hv

theorem Rep.sub {N : Nat} {fr' fr : Fr} {a : Act} (h : Rep N fr a) (hs : Sub fr' fr) : Rep N fr' a := ⟨h.size, h.defers, fun t v hv => h.slot t v (hs.look hv)⟩

theorem Rep.enter (args : List Value) (n : Nat) (fr : Fr) (hs : ∀ t v, look fr t = some v → args[t]? = some v) (hn : args.length ≤ n) :
    Rep n fr { tmps := args.toArray ++ Array.replicate (n - args.toArray.size) undef, defers := [] } := by
  refine ⟨by simp; omega, rfl, fun t v hv => ?_⟩
  have h := hs t v hv
  have hlt : t < args.length := (List.getElem?_eq_some_iff.1 h).1
  rw [show (args.toArray ++ Array.replicate (n - args.toArray.size) undef).getD t undef = ((args.toArray ++ Array.replicate (n - args.toArray.size) undef)[t]?).getD undef by simp]
  rw [Array.getElem?_append_left (by simpa using hlt)]
  simp [h]

/-- Slots 0, 1, .. hold the arguments. -/
def argFr : Nat → List Value → Fr
  | _, [] => []
  | i, v :: r => (i, v) :: argFr (i + 1) r

theorem look_argFr : ∀ (l : List Value) (i t : Nat) (v : Value), look (argFr i l) t = some v → i ≤ t ∧ l[t - i]? = some v
  | [], _, _, _, h => by simp [argFr, look] at h
  | u :: r, i, t, v, h => by
    by_cases e : i = t
    · subst e
      rw [argFr, look_cons_eq] at h
      exact ⟨Nat.le_refl _, by simpa using h⟩
    · rw [argFr, look_cons_ne _ _ e] at h
      obtain ⟨h1, h2⟩ := look_argFr r (i + 1) t v h
      refine ⟨by omega, ?_⟩
      rw [show t - i = (t - (i + 1)) + 1 by omega]
      simpa using h2

/-! ### Runs -/

section
variable (P : Program) (f : FuncId) (N : Nat)

/-- From the stack 'todo' of code, in state a and world w, the call comes to its end with R. -/
def RunA (todo : List Item) (a : Act) (w : World) (R : Value → World → Prop) : Prop :=
  ∀ b : Frame, b.fn = f → b.kind = .normal → ∀ cs, ∃ v w' fr', R v w' ∧ Steps P (lone (b.at a todo) cs w) (lone fr' cs w') ∧ fr'.fn = f ∧ fr'.leaving P w' (.returned v)

structure Run (todo : List Item) (fr : Fr) (w : World) (R : Value → World → Prop) : Prop where
  out : ∀ a, Rep N fr a → RunA P f todo a w R

/-- What is asked at the end of a region. -/
def Post (k : List Item) (R : Value → World → Prop) : Exit → Act → World → Prop := fun e a w => e = .normal ∧ RunA P f k a w R

/-- The operations 'l' of a region 'ops', then the stack 'k'. -/
structure RL (ops : Array Oper) (k : List Item) (R : Value → World → Prop) (l : List Oper) (fr : Fr) (w : World) : Prop where
  out : ∀ a, Rep N fr a → wpList P ops (Post P f k R) l a w
end

/-- The call hands back a value. -/
def CallsV (P : Program) (f : FuncId) (args : List Value) (w : World) (R : Value → World → Prop) : Prop :=
  Calls P f args.toArray w fun e w' => ∃ v, e = .returned v ∧ R v w'

section
variable {P : Program} {f : FuncId} {N : Nat} {R : Value → World → Prop} {fr : Fr} {w : World} {k : List Item}

theorem CallsV.mono {args : List Value} {R' : Value → World → Prop} (h : CallsV P f args w R) (hr : ∀ v w', R v w' → R' v w') : CallsV P f args w R' :=
  Calls.mono h fun _ _ ⟨v, e, r⟩ => ⟨v, e, hr v _ r⟩

theorem Run.sub {todo : List Item} {fr' : Fr} (h : Run P f N todo fr' w R) (hs : Sub fr' fr) : Run P f N todo fr w R := ⟨fun a ha => h.out a (ha.sub hs)⟩

/-- Into the function's body. -/
theorem callsV_of_run {fn : Func} {c : Code} {args : List Value} (hf : P.funcs[f]? = some fn) (hb : fn.body = some c) (hN : fn.ntmps = N) (hn : args.length ≤ N)
    (h : Run P f N [.code c] (argFr 0 args) w R) : CallsV P f args w R := by
  subst hN
  intro cs
  let b : Frame := { (default : Frame) with fn := f, kind := .normal }
  have henter : Frame.enter P f args.toArray .normal =
      b.at { tmps := args.toArray ++ Array.replicate (fn.ntmps - args.toArray.size) undef, defers := [] } [.code c] := by
    simp [Frame.enter, Frame.at, hf, hb, b]
  have hrep := Rep.enter args fn.ntmps (argFr 0 args) (fun t v hv => by simpa using (look_argFr args 0 t v hv).2) hn
  obtain ⟨v, w', fr', hR, hst, hfn, hl⟩ := h.out _ hrep b rfl rfl cs
  rw [← henter] at hst
  exact ⟨.returned v, w', fr', ⟨v, rfl, hR⟩, hst, hfn, hl⟩

theorem RunA.step {todo todo' : List Item} {a a' : Act} {w' : World} (h : RunA P f todo' a' w' R) (hs : ∀ (b : Frame) cs, Steps P (lone (b.at a todo) cs w) (lone (b.at a' todo') cs w')) :
    RunA P f todo a w R := fun b hb hk cs => by
  obtain ⟨v, w'', fr', hR, hst, hfn, hl⟩ := h b hb hk cs
  exact ⟨v, w'', fr', hR, (hs b cs).trans hst, hfn, hl⟩

theorem run_seq {x y : Code} (h : Run P f N (.code x :: .code y :: k) fr w R) : Run P f N (.code (.seq x y) :: k) fr w R :=
  ⟨fun a ha => (h.out a ha).step fun _ _ => .one step_seq⟩
theorem run_skip (h : Run P f N k fr w R) : Run P f N (.code .skip :: k) fr w R := ⟨fun a ha => (h.out a ha).step fun _ _ => .one step_skip⟩
theorem run_label {l : Nat} (h : Run P f N k fr w R) : Run P f N (.code (.label l) :: k) fr w R := ⟨fun a ha => (h.out a ha).step fun _ _ => .one step_label⟩
theorem run_block {id : Nat} {c : Code} (h : Run P f N (.code c :: .inBlock id :: k) fr w R) : Run P f N (.code (.block id c) :: k) fr w R :=
  ⟨fun a ha => (h.out a ha).step fun _ _ => .one step_block⟩
theorem run_inBlock {id : Nat} (h : Run P f N k fr w R) : Run P f N (.inBlock id :: k) fr w R := ⟨fun a ha => (h.out a ha).step fun _ _ => .one step_inBlock⟩
theorem run_exit {id : Nat} {k' : List Item} (hk : exitTo id k = some k') (h : Run P f N k' fr w R) : Run P f N (.code (.exit id) :: k) fr w R :=
  ⟨fun a ha => (h.out a ha).step fun _ _ => .one (step_exit hk)⟩
theorem run_cond {c : Operand} {x y : Code} {t : Bool} (hc : opv fr c = some (.bool t)) (h : Run P f N (.code (if t then x else y) :: k) fr w R) :
    Run P f N (.code (.cond c x y) :: k) fr w R := ⟨fun a ha => (h.out a ha).step fun _ _ => .one (step_cond (ha.eval hc))⟩
theorem run_true {c : Operand} {x y : Code} (hc : opv fr c = some (.bool true)) (h : Run P f N (.code x :: k) fr w R) :
    Run P f N (.code (.cond c x y) :: k) fr w R := run_cond hc h
theorem run_false {c : Operand} {x y : Code} (hc : opv fr c = some (.bool false)) (h : Run P f N (.code y :: k) fr w R) :
    Run P f N (.code (.cond c x y) :: k) fr w R := run_cond hc h
theorem run_if {c : Operand} {x y : Code} {p : Prop} [Decidable p] (hc : opv fr c = some (.bool (decide p))) (ht : p → Run P f N (.code x :: k) fr w R)
    (hf : ¬ p → Run P f N (.code y :: k) fr w R) : Run P f N (.code (.cond c x y) :: k) fr w R := by
  by_cases h : p
  · exact run_true (by rw [hc]; simp [h]) (ht h)
  · exact run_false (by rw [hc]; simp [h]) (hf h)
theorem run_ifb {c : Operand} {x y : Code} {b : Bool} (hc : opv fr c = some (.bool b)) (ht : b = true → Run P f N (.code x :: k) fr w R)
    (hf : b = false → Run P f N (.code y :: k) fr w R) : Run P f N (.code (.cond c x y) :: k) fr w R := by
  cases b
  · exact run_false hc (hf rfl)
  · exact run_true hc (ht rfl)

theorem run_yes {c : Operand} {x y : Code} {p : Prop} [Decidable p] (hc : opv fr c = some (.bool (decide p))) (hp : p) (h : Run P f N (.code x :: k) fr w R) :
    Run P f N (.code (.cond c x y) :: k) fr w R := run_true (by rw [hc, decide_eq_true hp]) h
theorem run_no {c : Operand} {x y : Code} {p : Prop} [Decidable p] (hc : opv fr c = some (.bool (decide p))) (hp : ¬ p) (h : Run P f N (.code y :: k) fr w R) :
    Run P f N (.code (.cond c x y) :: k) fr w R := run_false (by rw [hc, decide_eq_false hp]) h

theorem leaving_of {b : Frame} {a : Act} {todo : List Item} {fn : Func} {v : Value} (hb : b.fn = f) (hk : b.kind = .normal) (hf : P.funcs[f]? = some fn)
    (hd : a.defers = []) (hr : (results fn a.tmps).run P w = .ok v w) : ({ b.at a todo with mode := .returning } : Frame).leaving P w (.returned v) :=
  ⟨rfl, hd, hk, fn, by simpa [Frame.at, hb] using hf, by simpa [Frame.at] using hr⟩

theorem runA_ret {fn : Func} {a : Act} {v : Value} (hf : P.funcs[f]? = some fn) (hd : a.defers = []) (hr : (results fn a.tmps).run P w = .ok v w) (h : R v w) :
    RunA P f (.code .ret :: k) a w R := fun b hb hk cs =>
  ⟨v, w, _, h, .one step_ret, by simpa [Frame.at] using hb, leaving_of hb hk hf hd hr⟩
theorem runA_end {fn : Func} {a : Act} {v : Value} (hf : P.funcs[f]? = some fn) (hd : a.defers = []) (hr : (results fn a.tmps).run P w = .ok v w) (h : R v w) :
    RunA P f [] a w R := fun b hb hk cs =>
  ⟨v, w, _, h, .one step_end, by simpa [Frame.at] using hb, leaving_of hb hk hf hd hr⟩

theorem run_ret1 {fn : Func} {t : Nat} {v : Value} (hf : P.funcs[f]? = some fn) (hr : fn.results = #[.tmp t]) (hl : look fr t = some v) (h : R v w) :
    Run P f N (.code .ret :: k) fr w R := ⟨fun a ha => runA_ret hf ha.defers (by rw [results_tmp hr, ha.slot t v hl]) h⟩
theorem run_ret2 {fn : Func} {t u : Nat} {v x : Value} (hf : P.funcs[f]? = some fn) (hr : fn.results = #[.tmp t, .tmp u]) (hl : look fr t = some v) (hl2 : look fr u = some x)
    (h : R (.tuple #[v, x]) w) : Run P f N (.code .ret :: k) fr w R := ⟨fun a ha => runA_ret hf ha.defers (by rw [results_tmp2 hr, ha.slot t v hl, ha.slot u x hl2]) h⟩
theorem run_ret3 {fn : Func} {t u s : Nat} {v x y : Value} (hf : P.funcs[f]? = some fn) (hr : fn.results = #[.tmp t, .tmp u, .tmp s]) (hl : look fr t = some v) (hl2 : look fr u = some x)
    (hl3 : look fr s = some y) (h : R (.tuple #[v, x, y]) w) : Run P f N (.code .ret :: k) fr w R :=
  ⟨fun a ha => runA_ret hf ha.defers (by
    have h1 := ha.slot t v hl; have h2 := ha.slot u x hl2; have h3 := ha.slot s y hl3
    simp [results, hr] at h1 h2 h3 ⊢; simp [h1, h2, h3]) h⟩
theorem run_ret0 {fn : Func} (hf : P.funcs[f]? = some fn) (hr : fn.results = #[]) (h : R (.tuple #[]) w) :
    Run P f N (.code .ret :: k) fr w R := ⟨fun _ ha => runA_ret hf ha.defers (results_none hr _ _ _) h⟩
theorem run_end0 {fn : Func} (hf : P.funcs[f]? = some fn) (hr : fn.results = #[]) (h : R (.tuple #[]) w) :
    Run P f N [] fr w R := ⟨fun _ ha => runA_end hf ha.defers (results_none hr _ _ _) h⟩
theorem run_end1 {fn : Func} {t : Nat} {v : Value} (hf : P.funcs[f]? = some fn) (hr : fn.results = #[.tmp t]) (hl : look fr t = some v) (h : R v w) :
    Run P f N [] fr w R := ⟨fun a ha => runA_end hf ha.defers (by rw [results_tmp hr, ha.slot t v hl]) h⟩

/-- A loop: 'F x' is the frame, 'J x' what is known, at the head of a round. -/
theorem run_loop {α : Type} {c : Code} (F : α → Fr) (J : α → World → Prop) (μ : α → Nat) (x0 : α) (h0 : J x0 w)
    (round : ∀ x w, J x w → (∀ y w', J y w' → μ y < μ x → Run P f N (.inLoop c :: k) (F y) w' R) → Run P f N (.code c :: .inLoop c :: k) (F x) w R) :
    Run P f N (.code (.loop c) :: k) (F x0) w R := by
  have key : ∀ n x w, μ x = n → J x w → Run P f N (.code c :: .inLoop c :: k) (F x) w R := by
    intro n
    induction n using Nat.strongRecOn with
    | _ n ih =>
      intro x w hn hJ
      refine round x w hJ fun y w' hJ' hlt => ?_
      exact ⟨fun a ha => ((ih (μ y) (hn ▸ hlt) y w' rfl hJ').out a ha).step fun _ _ => .one step_inLoop⟩
  exact ⟨fun a ha => ((key _ x0 w rfl h0).out a ha).step fun _ _ => .one step_loop⟩

/-! ### Regions -/

theorem run_region {id : Nat} {ops : Array Oper} (h : RL P f N ops k R ops.toList fr w) : Run P f N (.code (.region id ops false) :: k) fr w R := by
  refine ⟨fun a ha b hb hk cs => ?_⟩
  obtain ⟨e, a', w', ⟨rfl, hrun⟩, harr⟩ := wp_region_list (id := id) (h.out a ha) b k cs
  obtain ⟨v, w'', fr', hR, hst, hfn, hl⟩ := hrun b hb hk cs
  exact ⟨v, w'', fr', hR, Steps.trans harr hst, hfn, hl⟩

theorem run_region_l {id : Nat} {l : List Oper} (h : RL P f N l.toArray k R l fr w) : Run P f N (.code (.region id l.toArray false) :: k) fr w R :=
  run_region (by simpa using h)

theorem run_region_any {id : Nat} {ops : Array Oper} (hm : P.follows .mixedOrders = true)
    (h : ∀ a, Rep N fr a → wpAny P .any ops (Post P f k R) ops.size (Array.replicate ops.size false) a { w with drawn := w.drawn + 1 }) :
    Run P f N (.code (.region id ops true) :: k) fr w R := by
  refine ⟨fun a ha b hb hk cs => ?_⟩
  obtain ⟨e, a', w', ⟨rfl, hrun⟩, harr⟩ := wp_region_any (id := id) hm (h a ha) b k cs
  obtain ⟨v, w'', fr', hR, hst, hfn, hl⟩ := hrun b hb hk cs
  exact ⟨v, w'', fr', hR, Steps.trans harr hst, hfn, hl⟩

theorem rl_nil {ops : Array Oper} (h : Run P f N k fr w R) : RL P f N ops k R [] fr w := ⟨fun a ha => ⟨rfl, h.out a ha⟩⟩

/-- One operation, run in frame fr and world w, yields a value and a world with Ψ. -/
structure OP (P : Program) (N : Nat) (o : Oper) (fr : Fr) (w : World) (Ψ : Value → World → Prop) : Prop where
  out : ∀ a, Rep N fr a →
    (∃ v w', (execOp a.eval o).run P w = .ok (.value v) w' ∧ Ψ v w') ∨
    (∃ w', (execOp a.eval o).run P w = .ok .skip w' ∧ Ψ undef w') ∨
    (∃ g args w', (execOp a.eval o).run P w = .ok (.enter g args.toArray) w' ∧ CallsV P g args w' Ψ)

theorem OP.mono {o : Oper} {Ψ Ψ' : Value → World → Prop} (h : OP P N o fr w Ψ) (hh : ∀ v w', Ψ v w' → Ψ' v w') : OP P N o fr w Ψ' := ⟨fun a ha => by
  rcases h.out a ha with ⟨v, w', e, p⟩ | ⟨w', e, p⟩ | ⟨g, args, w', e, p⟩
  · exact .inl ⟨v, w', e, hh _ _ p⟩
  · exact .inr (.inl ⟨w', e, hh _ _ p⟩)
  · exact .inr (.inr ⟨g, args, w', e, p.mono hh⟩)⟩

theorem OP.sub {o : Oper} {fr' : Fr} {Ψ : Value → World → Prop} (h : OP P N o fr' w Ψ) (hs : Sub fr' fr) : OP P N o fr w Ψ := ⟨fun a ha => h.out a (ha.sub hs)⟩

/-- Whether the guard lets it run. -/
theorem OP.wp {o : Oper} {a : Act} {Q : Exit → Act → World → Prop} {K : Act → World → Prop} (h : OP P N o fr w (fun v w' => K (a.put o.dst v) w')) (ha : Rep N fr a) : o.wp P a w K Q := by
  unfold Oper.wp
  rcases h.out a ha with ⟨v, w', e, p⟩ | ⟨w', e, p⟩ | ⟨g, args, w', e, p⟩
  · rw [e]; exact p
  · rw [e]; exact p
  · rw [e]; exact Calls.mono p fun e' w'' ⟨v, he, hp⟩ => by subst he; exact hp

theorem rl_step {ops : Array Oper} {d : Nat} {op : Op} {ty : TypeId} {pos : String} {aft : Array Edge} {rest : List Oper} (hd : d < N)
    (h : OP P N ⟨some d, op, ty, pos, aft, none⟩ fr w (fun v w' => RL P f N ops k R rest ((d, v) :: fr) w')) :
    RL P f N ops k R (⟨some d, op, ty, pos, aft, none⟩ :: rest) fr w := by
  refine ⟨fun a ha => wpList_plain rfl fun K hK => ?_⟩
  exact OP.wp (N := N) (fr := fr) (h.mono fun v w' hr => hK _ _ (hr.out _ (ha.put v hd))) ha

theorem rl_step0 {ops : Array Oper} {op : Op} {ty : TypeId} {pos : String} {aft : Array Edge} {rest : List Oper}
    (h : OP P N ⟨none, op, ty, pos, aft, none⟩ fr w (fun _ w' => RL P f N ops k R rest fr w')) :
    RL P f N ops k R (⟨none, op, ty, pos, aft, none⟩ :: rest) fr w := by
  refine ⟨fun a ha => wpList_plain rfl fun K hK => ?_⟩
  exact OP.wp (N := N) (fr := fr) (h.mono fun v w' hr => hK _ _ (hr.out _ ha)) ha

theorem yielded_of {ops : Array Oper} {a : Act} (ha : Rep N fr a) {j d : Nat} {b : Bool} (hj : (ops[j]?).bind (·.dst) = some d) (hl : look fr d = some (.bool b)) : yielded ops a.tmps j = some b := by
  have h := ha.slot d _ hl
  unfold yielded
  rw [hj]
  have hlt : d < a.tmps.size := by
    rcases Nat.lt_or_ge d a.tmps.size with h' | h'
    · exact h'
    · simp [Array.getElem?_eq_none h', undef] at h
  have : a.tmps[d]? = some (.bool b) := by
    simp [hlt] at h ⊢; exact h
  simp [this]

/-- A guarded operation that runs. -/
theorem rl_yes {ops : Array Oper} {d : Nat} {op : Op} {ty : TypeId} {pos : String} {aft : Array Edge} {j : Nat} {want : Bool} {dj : Nat} {rest : List Oper} (hj : (ops[j]?).bind (·.dst) = some dj)
    (hl : look fr dj = some (.bool want)) (h : RL P f N ops k R (⟨some d, op, ty, pos, aft, none⟩ :: rest) fr w) :
    RL P f N ops k R (⟨some d, op, ty, pos, aft, some (j, want)⟩ :: rest) fr w := by
  refine ⟨fun a ha => ?_⟩
  have h1 := h.out a ha
  have hy := yielded_of ha hj hl
  simp only [wpList, Region.wanted, hy, beq_self_eq_true, if_true] at h1 ⊢
  exact h1

/-- A guarded operation that does not. -/
theorem rl_no {ops : Array Oper} {d : Nat} {op : Op} {ty : TypeId} {pos : String} {aft : Array Edge} {j : Nat} {want b : Bool} {dj : Nat} {rest : List Oper} (hj : (ops[j]?).bind (·.dst) = some dj)
    (hl : look fr dj = some (.bool b)) (hb : (b == want) = false) (hd : d < N) (h : RL P f N ops k R rest ((d, undef) :: fr) w) :
    RL P f N ops k R (⟨some d, op, ty, pos, aft, some (j, want)⟩ :: rest) fr w := by
  refine ⟨fun a ha => ?_⟩
  have hy := yielded_of ha hj hl
  refine wpList_skip ?_ (h.out _ (ha.put undef hd))
  simp only [Region.wanted, hy]
  cases b <;> cases want <;> simp_all

/-- Part on a bool. -/
theorem rl_part {ops : Array Oper} {l : List Oper} (d : Nat) {p : Prop} [Decidable p] (hl : look fr d = some (.bool (decide p)))
    (ht : p → RL P f N ops k R l ((d, .bool true) :: fr) w) (hf : ¬ p → RL P f N ops k R l ((d, .bool false) :: fr) w) : RL P f N ops k R l fr w := by
  refine ⟨fun a ha => ?_⟩
  have h0 := ha.slot d _ hl
  by_cases h : p
  · refine (ht h).out a ⟨ha.size, ha.defers, fun t v hv => ?_⟩
    by_cases e : d = t
    · subst e; rw [look_cons_eq] at hv; cases hv; rw [h0]; simp [h]
    · rw [look_cons_ne _ _ e] at hv; exact ha.slot t v hv
  · refine (hf h).out a ⟨ha.size, ha.defers, fun t v hv => ?_⟩
    by_cases e : d = t
    · subst e; rw [look_cons_eq] at hv; cases hv; rw [h0]; simp [h]
    · rw [look_cons_ne _ _ e] at hv; exact ha.slot t v hv

theorem RL.sub {ops : Array Oper} {l : List Oper} {fr' : Fr} (h : RL P f N ops k R l fr' w) (hs : Sub fr' fr) : RL P f N ops k R l fr w := ⟨fun a ha => h.out a (ha.sub hs)⟩

end
end Go.Proofs.Ytocoinkhbjlbhaa
