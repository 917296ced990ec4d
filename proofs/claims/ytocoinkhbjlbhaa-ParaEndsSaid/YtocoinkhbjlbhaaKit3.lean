/-
  One law for each operation, for the calculus of Kit1: moves, arithmetic, tests, calls, reads.
-/
import Derived.Test.YtocoinkhbjlbhaaKit2
namespace Go.Proofs.Ytocoinkhbjlbhaa
open Go Go.RowKit

/-- What several operands are. -/
def opvs (fr : Fr) : List Operand → Option (List Value)
  | [] => some []
  | x :: r => match opv fr x, opvs fr r with
    | some v, some l => some (v :: l)
    | _, _ => none

theorem Rep.evals {N : Nat} {fr : Fr} {a : Act} (h : Rep N fr a) : ∀ {xs : List Operand} {vs : List Value}, opvs fr xs = some vs → xs.map a.eval = vs
  | [], vs, hx => by simp [opvs] at hx; simp [hx]
  | x :: r, vs, hx => by
    simp only [opvs] at hx
    split at hx
    · rename_i v l h1 h2
      cases hx
      simp [h.eval h1, h.evals h2]
    · cases hx

/-- A function with a body. -/
def Ent (P : Program) (g : FuncId) : Prop := ∃ fn, P.funcs[g]? = some fn ∧ (fn.name == "runtime.NumGoroutine") = false ∧ fn.body.isNone = false

section
variable {P : Program} {N : Nat} {fr : Fr} {w : World} {Ψ : Value → World → Prop} {d : Option Tmp} {ty : TypeId} {pos : String} {aft : Array Edge} {g : Option (Nat × Bool)}

theorem OP.val {o : Oper} {v : Value} {w' : World} (h : ∀ a, Rep N fr a → (execOp a.eval o).run P w = .ok (.value v) w') (hp : Ψ v w') : OP P N o fr w Ψ :=
  ⟨fun a ha => .inl ⟨v, w', h a ha, hp⟩⟩
theorem OP.skip {o : Oper} {w' : World} (h : ∀ a, Rep N fr a → (execOp a.eval o).run P w = .ok .skip w') (hp : Ψ undef w') : OP P N o fr w Ψ :=
  ⟨fun a ha => .inr (.inl ⟨w', h a ha, hp⟩)⟩

theorem op_move {x : Operand} {v : Value} (hx : opv fr x = some v) (h : Ψ v w) : OP P N ⟨d, .move x, ty, pos, aft, g⟩ fr w Ψ :=
  OP.val (fun a ha => by simp [execOp, ha.eval hx]) h
theorem op_assign {x : Operand} {v : Value} (hx : opv fr x = some v) (h : Ψ v w) : OP P N ⟨d, .assign x, ty, pos, aft, g⟩ fr w Ψ :=
  OP.val (fun a ha => by simp [execOp, ha.eval hx]) h
theorem op_pick_t {c x y : Operand} {v : Value} (hc : opv fr c = some (.bool true)) (hx : opv fr x = some v) (h : Ψ v w) : OP P N ⟨d, .pick c x y, ty, pos, aft, g⟩ fr w Ψ :=
  OP.val (fun a ha => by simp [execOp, ha.eval hx, ha.eval hc, asBool]) h
theorem op_pick_f {c x y : Operand} {v : Value} (hc : opv fr c = some (.bool false)) (hy : opv fr y = some v) (h : Ψ v w) : OP P N ⟨d, .pick c x y, ty, pos, aft, g⟩ fr w Ψ :=
  OP.val (fun a ha => by simp [execOp, ha.eval hy, ha.eval hc, asBool]) h

section ints
variable {x y : Operand} {m n : Int} {t u : TypeId}
theorem op_add (hx : opv fr x = some (.int .i64 m)) (hy : opv fr y = some (.int .i64 n)) (hr : -9223372036854775808 ≤ m + n ∧ m + n ≤ 9223372036854775807) (h : Ψ (.int .i64 (m + n)) w) :
    OP P N ⟨d, .binOp .add t x y u, ty, pos, aft, g⟩ fr w Ψ :=
  OP.val (v := .int .i64 (m + n)) (fun a ha => by simp [execOp, ha.eval hx, ha.eval hy, eqGuard_at_int, binOp_add, Op.intArith, IntWalk.i64_in _ hr]) h
theorem op_sub (hx : opv fr x = some (.int .i64 m)) (hy : opv fr y = some (.int .i64 n)) (hr : -9223372036854775808 ≤ m - n ∧ m - n ≤ 9223372036854775807) (h : Ψ (.int .i64 (m - n)) w) :
    OP P N ⟨d, .binOp .sub t x y u, ty, pos, aft, g⟩ fr w Ψ :=
  OP.val (v := .int .i64 (m - n)) (fun a ha => by simp [execOp, ha.eval hx, ha.eval hy, eqGuard_at_int, binOp_sub, Op.intArith, IntWalk.i64_in _ hr]) h
theorem op_mul (hx : opv fr x = some (.int .i64 m)) (hy : opv fr y = some (.int .i64 n)) (hr : -9223372036854775808 ≤ m * n ∧ m * n ≤ 9223372036854775807) (h : Ψ (.int .i64 (m * n)) w) :
    OP P N ⟨d, .binOp .mul t x y u, ty, pos, aft, g⟩ fr w Ψ :=
  OP.val (v := .int .i64 (m * n)) (fun a ha => by simp [execOp, ha.eval hx, ha.eval hy, eqGuard_at_int, binOp_mul, Op.intArith, IntWalk.i64_in _ hr]) h
theorem op_quo (hx : opv fr x = some (.int .i64 m)) (hy : opv fr y = some (.int .i64 n)) (h0 : n ≠ 0) (hr : -9223372036854775808 ≤ m.tdiv n ∧ m.tdiv n ≤ 9223372036854775807)
    (h : Ψ (.int .i64 (m.tdiv n)) w) : OP P N ⟨d, .binOp .quo t x y u, ty, pos, aft, g⟩ fr w Ψ :=
  OP.val (v := .int .i64 (m.tdiv n)) (fun a ha => by simp [execOp, ha.eval hx, ha.eval hy, eqGuard_at_int, binOp_quo, Op.intDiv, h0, IntWalk.i64_in _ hr]) h
theorem op_rem (hx : opv fr x = some (.int .i64 m)) (hy : opv fr y = some (.int .i64 n)) (h0 : n ≠ 0)
    (h : Ψ (.int .i64 (m.tmod n)) w) : OP P N ⟨d, .binOp .rem t x y u, ty, pos, aft, g⟩ fr w Ψ :=
  OP.val (v := .int .i64 (m.tmod n)) (fun a ha => by simp [execOp, ha.eval hx, ha.eval hy, eqGuard_at_int, binOp_rem, Op.intDiv, h0]) h
theorem op_lss {k : IntKind} (hx : opv fr x = some (.int k m)) (hy : opv fr y = some (.int k n)) (h : Ψ (.bool (decide (m < n))) w) : OP P N ⟨d, .binOp .lss t x y u, ty, pos, aft, g⟩ fr w Ψ :=
  OP.val (fun a ha => by simp [execOp, ha.eval hx, ha.eval hy, eqGuard_at_int, binOp_lss]) h
theorem op_leq {k : IntKind} (hx : opv fr x = some (.int k m)) (hy : opv fr y = some (.int k n)) (h : Ψ (.bool (decide (m ≤ n))) w) : OP P N ⟨d, .binOp .leq t x y u, ty, pos, aft, g⟩ fr w Ψ :=
  OP.val (fun a ha => by simp [execOp, ha.eval hx, ha.eval hy, eqGuard_at_int, binOp_leq]) h
theorem op_gtr {k : IntKind} (hx : opv fr x = some (.int k m)) (hy : opv fr y = some (.int k n)) (h : Ψ (.bool (decide (n < m))) w) : OP P N ⟨d, .binOp .gtr t x y u, ty, pos, aft, g⟩ fr w Ψ :=
  OP.val (fun a ha => by simp [execOp, ha.eval hx, ha.eval hy, eqGuard_at_int, binOp_gtr]) h
theorem op_geq {k : IntKind} (hx : opv fr x = some (.int k m)) (hy : opv fr y = some (.int k n)) (h : Ψ (.bool (decide (n ≤ m))) w) : OP P N ⟨d, .binOp .geq t x y u, ty, pos, aft, g⟩ fr w Ψ :=
  OP.val (fun a ha => by simp [execOp, ha.eval hx, ha.eval hy, eqGuard_at_int, binOp_geq]) h
theorem op_eql {k : IntKind} (hx : opv fr x = some (.int k m)) (hy : opv fr y = some (.int k n)) (h : Ψ (.bool (decide (m = n))) w) : OP P N ⟨d, .binOp .eql t x y u, ty, pos, aft, g⟩ fr w Ψ :=
  OP.val (v := .bool (decide (m = n))) (fun a ha => by
    simp only [execOp, ha.eval hx, ha.eval hy, eqGuard_at_int, binOp_eql]
    simp
    rw [Bool.eq_iff_iff]; simp) h
theorem op_neq {k : IntKind} (hx : opv fr x = some (.int k m)) (hy : opv fr y = some (.int k n)) (h : Ψ (.bool (decide (m ≠ n))) w) : OP P N ⟨d, .binOp .neq t x y u, ty, pos, aft, g⟩ fr w Ψ :=
  OP.val (v := .bool (decide (m ≠ n))) (fun a ha => by
    simp only [execOp, ha.eval hx, ha.eval hy, eqGuard_at_int, binOp_neq]
    simp
    rw [Bool.eq_iff_iff]; simp) h
theorem op_min {k : IntKind} {argT : Array TypeId} (hx : opv fr x = some (.int k m)) (hy : opv fr y = some (.int k n)) (h : Ψ (.int k (min m n)) w) :
    OP P N ⟨d, .call ⟨.builtin .min, #[x, y], argT⟩, ty, pos, aft, g⟩ fr w Ψ :=
  OP.val (v := .int k (min m n)) (fun a ha => by
    have e : (if n < m then n else m) = min m n := by split <;> omega
    simp [execOp, resolve, invoke, builtin, Builtin.min_, Builtin.min2, ha.eval hx, ha.eval hy, e]) h
theorem op_max {k : IntKind} {argT : Array TypeId} (hx : opv fr x = some (.int k m)) (hy : opv fr y = some (.int k n)) (h : Ψ (.int k (max m n)) w) :
    OP P N ⟨d, .call ⟨.builtin .max, #[x, y], argT⟩, ty, pos, aft, g⟩ fr w Ψ :=
  OP.val (v := .int k (max m n)) (fun a ha => by
    have e : (if n > m then n else m) = max m n := by split <;> omega
    simp [execOp, resolve, invoke, builtin, Builtin.max_, Builtin.max2, ha.eval hx, ha.eval hy, e]) h
end ints

theorem op_not {x : Operand} {t : TypeId} {b : Bool} (hx : opv fr x = some (.bool b)) (h : Ψ (.bool (!b)) w) : OP P N ⟨d, .unOp .not t x, ty, pos, aft, g⟩ fr w Ψ :=
  OP.val (fun a ha => by simp [execOp, ha.eval hx, Op.unary]) h
theorem op_neg {x : Operand} {t : TypeId} {m : Int} (hx : opv fr x = some (.int .i64 m)) (hr : -9223372036854775808 ≤ -m ∧ -m ≤ 9223372036854775807) (h : Ψ (.int .i64 (-m)) w) : OP P N ⟨d, .unOp .neg t x, ty, pos, aft, g⟩ fr w Ψ :=
  OP.val (v := .int .i64 (-m)) (fun a ha => by simp [execOp, ha.eval hx, Op.unary, Op.intArith, IntWalk.i64_in _ hr]) h

theorem op_extract {x : Operand} {i : Nat} {vs : List Value} {v : Value} (hx : opv fr x = some (.tuple vs.toArray)) (hi : vs[i]? = some v) (h : Ψ v w) : OP P N ⟨d, .extract x i, ty, pos, aft, g⟩ fr w Ψ :=
  OP.val (fun a ha => by simp [execOp, ha.eval hx, Instr.extract, hi]) h

/-- A call of a function of the program. -/
theorem op_call {f : FuncId} {args : List Operand} {argT : Array TypeId} {vs : List Value} {R : Value → World → Prop} (he : Ent P f) (ha : opvs fr args = some vs) (hc : CallsV P f vs w R)
    (h : ∀ v w', R v w' → Ψ v w') : OP P N ⟨d, .call ⟨.value (.func f), args.toArray, argT⟩, ty, pos, aft, g⟩ fr w Ψ := ⟨fun a hr => by
  obtain ⟨fn, h1, h2, h3⟩ := he
  refine .inr (.inr ⟨f, vs, w, ?_, hc.mono h⟩)
  have hm := hr.evals ha
  have h2' : ¬ fn.name = "runtime.NumGoroutine" := by simpa using h2
  have h4 : ¬ fn.body = none := by
    intro e; rw [e] at h3; cases h3
  simp [execOp, resolve, Deferred.ofValue, invoke, callFunc, Act.eval, h1, h2', h4]
  exact hm⟩

/-- A call of a closure. -/
theorem op_callv {f : FuncId} {x : Operand} {cap : List Value} {args : List Operand} {argT : Array TypeId} {vs : List Value} {R : Value → World → Prop} (he : Ent P f)
    (hx : opv fr x = some (.func (.func f) #[] cap.toArray)) (ha : opvs fr args = some vs) (hc : CallsV P f (vs ++ cap) w R)
    (h : ∀ v w', R v w' → Ψ v w') : OP P N ⟨d, .call ⟨.value x, args.toArray, argT⟩, ty, pos, aft, g⟩ fr w Ψ := ⟨fun a hr => by
  obtain ⟨fn, h1, h2, h3⟩ := he
  refine .inr (.inr ⟨f, vs ++ cap, w, ?_, hc.mono h⟩)
  have hm := hr.evals ha
  have h2' : ¬ fn.name = "runtime.NumGoroutine" := by simpa using h2
  have h4 : ¬ fn.body = none := by
    intro e; rw [e] at h3; cases h3
  simp [execOp, resolve, Deferred.ofValue, invoke, callFunc, hr.eval hx, h1, h2', h4, ← hm]⟩

/-! ### Slices, read -/

theorem op_len {α : Type} {E : Enc α} {M : Mut} {x : Operand} {v : Value} {l : List α} {t e : TypeId} (ht : P.underlying t = some (.slice e)) (hx : opv fr x = some v) (hs : SlOf E M w v l)
    (h : Ψ (.int .i64 l.length) w) : OP P N ⟨d, .call ⟨.builtin .len, #[x], #[t]⟩, ty, pos, aft, g⟩ fr w Ψ :=
  OP.val (v := .int .i64 l.length) (fun a ha => by
    obtain ⟨ad, cap, h1, _⟩ := hs.ex
    simp [execOp, resolve, invoke, builtin, Builtin.len_, ha.eval hx, run_underlying ht, h1, goInt]) h

theorem SlOf.elem {α : Type} {E : Enc α} {M : Mut} {v : Value} {l : List α} (hs : SlOf E M w v l) {n : Int} (h0 : 0 ≤ n) (hn : n < l.length) :
    ∃ ad cap, v = .slice (some ad) l.length cap ∧ ∀ (i : Nat) (hi : i < l.length), Elem E M w (ad.add (i * E.sz)) l[i] := by
  obtain ⟨a, cap, h1, h2, h3, h4, h5, h6⟩ := hs.ex
  cases a with
  | none => have := h4 rfl; omega
  | some ad => exact ⟨ad, cap, h1, h6 ad rfl⟩

theorem op_indexAddr {α : Type} {E : Enc α} {M : Mut} {x i : Operand} {v : Value} {l : List α} {t e : TypeId} {k : IntKind} {n : Int} (ht : P.underlying t = some (.slice e)) (hE : TE P e E)
    (hx : opv fr x = some v) (hi : opv fr i = some (.int k n)) (hs : SlOf E M w v l) (h0 : 0 ≤ n ∧ n < l.length)
    (h : ∀ ad (hn : n.toNat < l.length), Elem E M w ad l[n.toNat] → Ψ (.pointer (some ad)) w) : OP P N ⟨d, .indexAddr t x i, ty, pos, aft, g⟩ fr w Ψ := by
  obtain ⟨ad, cap, h1, h6⟩ := hs.elem h0.1 h0.2
  obtain ⟨z, hz, hT⟩ := hE
  refine OP.val (v := .pointer (some (ad.add (n.toNat * E.sz)))) (w' := w) (fun a ha => ?_) (h _ (by omega) (h6 _ (by omega)))
  have hel : P.elem t = e := by simp [Program.elem, ht]
  have hr := run_indexAt_slice (P := P) w t ad l.length cap k n (by rw [hel]; exact ht)
  rw [hel, if_pos h0] at hr
  simp only [execOp, ha.eval hx, ha.eval hi, h1]
  simp [hr, hT.run_sizeOf (w := w)]

theorem op_load {α : Type} {E : Enc α} {M : Mut} {x : Operand} {ad : Addr} {t : TypeId} {u : α} (hE : TE P t E) (hx : opv fr x = some (.pointer (some ad))) (he : Elem E M w ad u)
    (h : ∀ v, E.V M w v u → Ψ v w) : OP P N ⟨d, .load t x, ty, pos, aft, g⟩ fr w Ψ := by
  obtain ⟨v, hr, hv⟩ := run_loadElem (w := w) hE he
  exact OP.val (v := v) (w' := w) (fun a ha => by simp [execOp, ha.eval hx, hr]) (h v hv)

/-- The place of a field. -/
def FD (P : Program) (s : TypeId) (f : Nat) (off : Nat) : Prop := ∃ fs fd i, P.underlying s = some (.struct fs) ∧ fs[f]? = some fd ∧ fd.offset = off ∧ P.info? fd.type = some i ∧ i.size ≠ 0

theorem op_fieldAddr {x : Operand} {ad : Addr} {s : TypeId} {f off : Nat} (hF : FD P s f off) (hx : opv fr x = some (.pointer (some ad))) (h : Ψ (.pointer (some (ad.add off))) w) :
    OP P N ⟨d, .fieldAddr s x f, ty, pos, aft, g⟩ fr w Ψ := by
  obtain ⟨fs, fd, i, h1, h2, h3, h4, h5⟩ := hF
  refine OP.val (v := .pointer (some (ad.add off))) (w' := w) (fun a ha => ?_) h
  subst h3
  simp [execOp, ha.eval hx, Instr.fieldAt, run_underlying h1, h2, Instr.sureAddr, fieldPlace, sizeOf, typeInfo, h4, h5]

/-- A field of a struct's value. -/
def FV (P : Program) (s : TypeId) (f : Nat) (off sz : Nat) (agg : Bool) : Prop :=
  ∃ fs fd i dsc, P.underlying s = some (.struct fs) ∧ fs[f]? = some fd ∧ fd.offset = off ∧ P.info? fd.type = some i ∧ i.size = sz ∧ P.underlying fd.type = some dsc ∧ aggD dsc = agg

theorem op_field1 {x : Operand} {cs : List Value} {v : Value} {s : TypeId} {f off sz : Nat} (hF : FV P s f off sz false) (hx : opv fr x = some (.agg cs.toArray)) (hv : cs[off]? = some v) (h : Ψ v w) :
    OP P N ⟨d, .field s x f, ty, pos, aft, g⟩ fr w Ψ := by
  obtain ⟨fs, fd, i, dsc, h1, h2, h3, h4, h5, h6, h7⟩ := hF
  refine OP.val (v := v) (w' := w) (fun a ha => ?_) h
  subst h3
  have hagg : (isAgg fd.type).run P w = .ok false w := by
    unfold isAgg
    rw [Sem.run_bind, run_underlying h6 w]
    cases dsc <;> simp_all [aggD]
  simp [execOp, ha.eval hx, Instr.field, run_underlying h1, h2, part, hagg, asAgg, hv]
theorem op_fieldn {x : Operand} {cs : List Value} {s : TypeId} {f off sz : Nat} (hF : FV P s f off sz true) (hx : opv fr x = some (.agg cs.toArray)) (h : Ψ (.agg ((cs.drop off).take sz).toArray) w) :
    OP P N ⟨d, .field s x f, ty, pos, aft, g⟩ fr w Ψ := by
  obtain ⟨fs, fd, i, dsc, h1, h2, h3, h4, h5, h6, h7⟩ := hF
  refine OP.val (v := .agg ((cs.drop off).take sz).toArray) (w' := w) (fun a ha => ?_) h
  subst h3 h5
  have hagg : (isAgg fd.type).run P w = .ok true w := by
    unfold isAgg
    rw [Sem.run_bind, run_underlying h6 w]
    cases dsc <;> simp_all [aggD]
  simp [execOp, ha.eval hx, Instr.field, run_underlying h1, h2, part, hagg, asAgg, sizeOf, typeInfo, h4]

/-- x[lo:hi], x[lo:], x[:hi], x[:]. -/
theorem SlOf.cut {α : Type} {E : Enc α} {M : Mut} {v : Value} {l : List α} {a : Option Addr} {cap lo hi : Nat} (hs : SlOf E M w v l) (hv : v = .slice a l.length cap) (h1 : lo ≤ hi) (h2 : hi ≤ l.length) :
    SlOf E M w (.slice (if cap = lo then a else a.map (·.add (lo * E.sz))) (hi - lo) (cap - lo)) ((l.drop lo).take (hi - lo)) := by
  obtain ⟨a', cap', e1, e2, e3, e4, e5, e6⟩ := hs.ex
  rw [hv] at e1
  cases e1
  have hlen : ((l.drop lo).take (hi - lo)).length = hi - lo := by simp; omega
  refine ⟨_, cap - lo, by rw [hlen], by rw [hlen]; omega, by omega, ?_, ?_, ?_⟩
  · intro h
    split at h
    · omega
    · cases a with
      | none => have := e4 rfl; omega
      | some ad => cases h
  · rw [hlen]
    exact Nat.le_trans (Nat.mul_le_mul_right _ (by omega)) e5
  · intro ad he i hi'
    rw [hlen] at hi'
    split at he
    · omega
    · cases a with
      | none => cases he
      | some ad0 =>
        simp at he
        subst he
        rw [add_add', ← Nat.add_mul]
        have := e6 ad0 rfl (lo + i) (by omega)
        simpa using this

theorem run_bound {k : IntKind} {n : Int} {y : Nat} {code : BoundsCode} (h : 0 ≤ n ∧ n ≤ y) : (Instr.sliceBound (.int k n) y code).run P w = .ok n.toNat w := by
  simp [Instr.sliceBound, asIntOf, h]

theorem op_slice_lh {α : Type} {E : Enc α} {M : Mut} {x lo hi : Operand} {v : Value} {l : List α} {t e : TypeId} {k k' : IntKind} {m n : Int} (ht : P.underlying t = some (.slice e)) (hE : TE P e E)
    (hx : opv fr x = some v) (hlo : opv fr lo = some (.int k m)) (hhi : opv fr hi = some (.int k' n)) (hs : SlOf E M w v l) (hb : 0 ≤ m ∧ m ≤ n ∧ n ≤ l.length)
    (h : ∀ v', SlOf E M w v' ((l.drop m.toNat).take (n.toNat - m.toNat)) → Ψ v' w) : OP P N ⟨d, .slice t x (some lo) (some hi) none, ty, pos, aft, g⟩ fr w Ψ := by
  obtain ⟨a, cap, e1, e2, _⟩ := hs.ex
  obtain ⟨z, hz, hT⟩ := hE
  have hcut := hs.cut (lo := m.toNat) (hi := n.toNat) e1 (by omega) (by omega)
  refine OP.val (w' := w) (fun a' ha => ?_) (h _ hcut)
  have b1 : (Instr.sliceBound (.int k' n) cap .sliceAcap).run P w = .ok n.toNat w := run_bound (by omega)
  have b2 : (Instr.sliceBound (.int k m) n.toNat .sliceB).run P w = .ok m.toNat w := run_bound (by omega)
  simp only [execOp, ha.eval hx, ha.eval hlo, ha.eval hhi, e1, Option.map_some, Option.map_none]
  simp [Instr.sliceAt, Instr.slice, run_underlying ht, Instr.sliceBounds, b1, b2, hT.run_sizeOf (w := w)]
theorem op_slice_l {α : Type} {E : Enc α} {M : Mut} {x lo : Operand} {v : Value} {l : List α} {t e : TypeId} {k : IntKind} {m : Int} (ht : P.underlying t = some (.slice e)) (hE : TE P e E)
    (hx : opv fr x = some v) (hlo : opv fr lo = some (.int k m)) (hs : SlOf E M w v l) (hb : 0 ≤ m ∧ m ≤ l.length)
    (h : ∀ v', SlOf E M w v' (l.drop m.toNat) → Ψ v' w) : OP P N ⟨d, .slice t x (some lo) none none, ty, pos, aft, g⟩ fr w Ψ := by
  obtain ⟨a, cap, e1, e2, _⟩ := hs.ex
  obtain ⟨z, hz, hT⟩ := hE
  have hcut := hs.cut (lo := m.toNat) (hi := l.length) e1 (by omega) (Nat.le_refl _)
  rw [List.take_of_length_le (by simp)] at hcut
  refine OP.val (w' := w) (fun a' ha => ?_) (h _ hcut)
  have b2 : (Instr.sliceBound (.int k m) l.length .sliceB).run P w = .ok m.toNat w := run_bound (by omega)
  simp only [execOp, ha.eval hx, ha.eval hlo, e1, Option.map_some, Option.map_none]
  simp [Instr.sliceAt, Instr.slice, run_underlying ht, Instr.sliceBounds, b2, hT.run_sizeOf (w := w)]
theorem op_slice_h {α : Type} {E : Enc α} {M : Mut} {x hi : Operand} {v : Value} {l : List α} {t e : TypeId} {k' : IntKind} {n : Int} (ht : P.underlying t = some (.slice e)) (hE : TE P e E)
    (hx : opv fr x = some v) (hhi : opv fr hi = some (.int k' n)) (hs : SlOf E M w v l) (hb : 0 ≤ n ∧ n ≤ l.length)
    (h : ∀ v', SlOf E M w v' (l.take n.toNat) → Ψ v' w) : OP P N ⟨d, .slice t x none (some hi) none, ty, pos, aft, g⟩ fr w Ψ := by
  obtain ⟨a, cap, e1, e2, _⟩ := hs.ex
  obtain ⟨z, hz, hT⟩ := hE
  have hcut := hs.cut (lo := 0) (hi := n.toNat) e1 (by omega) (by omega)
  simp only [List.drop_zero, Nat.sub_zero, Nat.zero_mul] at hcut
  refine OP.val (w' := w) (fun a' ha => ?_) (h _ hcut)
  have b1 : (Instr.sliceBound (.int k' n) cap .sliceAcap).run P w = .ok n.toNat w := run_bound (by omega)
  simp only [execOp, ha.eval hx, ha.eval hhi, e1, Option.map_some, Option.map_none]
  simp [Instr.sliceAt, Instr.slice, run_underlying ht, Instr.sliceBounds, b1, hT.run_sizeOf (w := w)]

end
end Go.Proofs.Ytocoinkhbjlbhaa
