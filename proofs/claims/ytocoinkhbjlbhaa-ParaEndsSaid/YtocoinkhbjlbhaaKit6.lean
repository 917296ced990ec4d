/-
  Regions that draw their order: each operation is shown to yield a value of a kind ('T'), whatever has been run before it besides what it reads; then every order yields values of these kinds.
-/
import Derived.Test.YtocoinkhbjlbhaaKit5
import Derived.Still
namespace Go.Proofs.Ytocoinkhbjlbhaa
open Go Go.RowKit

abbrev Ty := Mut → World → Value → Prop

/-- What is known of a value stays known as memory grows. -/
def MonoT (T : Ty) : Prop := ∀ M w M' w' v, UpM M w M' w' → T M w v → T M' w' v

def TyAll : List (Nat × Ty) → Mut → World → (Fr → Prop) → Fr → Prop
  | [], _, _, φ, acc => φ acc
  | (d, T) :: r, M, w, φ, acc => ∀ v, T M w v → TyAll r M w φ ((d, v) :: acc)

def fold (val : Nat → Value) : List (Nat × Ty) → Fr → Fr
  | [], acc => acc
  | (d, _) :: r, acc => fold val r ((d, val d) :: acc)

theorem TyAll.inst {M : Mut} {w : World} {φ : Fr → Prop} (val : Nat → Value) : ∀ {G : List (Nat × Ty)} {acc : Fr}, TyAll G M w φ acc → (∀ p ∈ G, p.2 M w (val p.1)) → φ (fold val G acc)
  | [], _, h, _ => h
  | (d, T) :: r, _, h, ht => TyAll.inst val (G := r) (h (val d) (ht (d, T) (by simp))) (fun p hp => ht p (by simp [hp]))

theorem look_fold (val : Nat → Value) : ∀ (G : List (Nat × Ty)) (acc : Fr) (t : Nat) (v : Value), look (fold val G acc) t = some v → (t ∈ G.map (·.1) ∧ v = val t) ∨ (t ∉ G.map (·.1) ∧ look acc t = some v)
  | [], _, _, _, h => .inr ⟨by simp, h⟩
  | (d, T) :: r, acc, t, v, h => by
    rcases look_fold val r _ t v h with ⟨h1, h2⟩ | ⟨h0, h1⟩
    · exact .inl ⟨by simp only [List.map_cons, List.mem_cons]; exact .inr h1, h2⟩
    · by_cases e : d = t
      · subst e
        rw [look_cons_eq] at h1
        exact .inl ⟨by simp, (Option.some.inj h1).symm⟩
      · rw [look_cons_ne _ _ e] at h1
        exact .inr ⟨by simp only [List.map_cons, List.mem_cons, not_or]; exact ⟨Ne.symm e, h0⟩, h1⟩

section
variable (P : Program) (N : Nat)

/-- One operation, its guard decided. -/
def OPG (ops : Array Oper) (o : Oper) (fr : Fr) (w : World) (Ψ : Value → World → Prop) : Prop :=
  (o.guard = none ∧ OP P N o fr w Ψ) ∨
  ∃ j want dj b, o.guard = some (j, want) ∧ (ops[j]?).bind (·.dst) = some dj ∧ look fr dj = some (.bool b) ∧ ((b = want ∧ OP P N o fr w Ψ) ∨ (b ≠ want ∧ Ψ undef w))

/-- Those of the kinds that operation o looks at. -/
def seenBy (ops : Array Oper) (o : Oper) (G : List (Nat × Ty)) : List (Nat × Ty) := G.filter fun p => (o.looksAt ops).any (Nat.beq p.1)

/-- What a step of memory may do: under which tags it writes. -/
abbrev Rel := List Nat → Mut → World → Mut → World → Prop

structure RelOk (S : Rel) : Prop where
  refl : ∀ M w, S [] M w M w
  trans : ∀ {W M w M' w' M'' w''}, S W M w M' w' → S W M' w' M'' w'' → S W M w M'' w''
  mono : ∀ {W W' : List Nat} {M w M' w'}, (∀ t ∈ W, t ∈ W') → S W M w M' w' → S W' M w M' w'

/-- What is known of a value stays known under steps that write under the tags W. -/
def Stab (S : Rel) (W : List Nat) (T : Ty) : Prop := ∀ M w M' w' v, S W M w M' w' → T M w v → T M' w' v

/-- Of each operation: the tag that it writes under; the tags that may have been written under before it runs; the tags that any other writes under. -/
structure Plan where
  tag : List (Option Nat) := []
  pre : List (List Nat) := []
  oth : List (List Nat) := []

def Plan.t (p : Plan) (i : Nat) : List Nat := (p.tag.getD i none).toList
def Plan.b (p : Plan) (i : Nat) : List Nat := p.pre.getD i []
def Plan.o (p : Plan) (i : Nat) : List Nat := p.oth.getD i []

/-- What is asked of operation o, the operations before it being of the kinds G. -/
def Ob (S : Rel) (Wb Wt : List Nat) (ops : Array Oper) (fr : Fr) (M0 : Mut) (w0 : World) (o : Oper) (G : List (Nat × Ty)) (T : Ty) : Prop :=
  ∀ M w, S Wb M0 w0 M w → TyAll (seenBy ops o G) M w (fun fr' => OPG P N ops o fr' w (fun v w' => ∃ M', S Wt M w M' w' ∧ T M' w' v)) fr

/-- The slot of an operation's kind: its own, or, where it writes none, one that there isn't. -/
def SlotOk (o : Oper) (i d : Nat) (T : Ty) : Prop := (o.dst = some d ∧ d < N) ∨ (o.dst = none ∧ d = N + i ∧ ∀ M w v v', T M w v → T M w v')

/-- The operations one behind the other, each with its kind; then 'fin'. -/
def DW (S : Rel) (pl : Plan) (ops : Array Oper) (fr : Fr) (M0 : Mut) (w0 : World) (fin : List (Nat × Ty) → Prop) : List Oper → List (Nat × Ty) → Prop
  | [], G => fin G
  | o :: rest, G => ∃ d T, SlotOk N o G.length d T ∧ Stab S (pl.o G.length) T ∧ Ob P N S (pl.b G.length) (pl.t G.length) ops fr M0 w0 o G T ∧ DW S pl ops fr M0 w0 fin rest (G ++ [(d, T)])
end

/-- All that must come before operation i. -/
def preds (ops : Array Oper) : Nat → Nat → List Nat
  | 0, _ => []
  | n + 1, i => match ops[i]? with
    | none => []
    | some o => (o.after.toList.filter (Region.binds .any)).flatMap fun e => e.on :: preds ops n e.on

/-- Moves that may be taken first of all. -/
def floatsOk (ops : Array Oper) (m : Nat) : List Nat → Array Bool → Bool
  | [], _ => true
  | i :: F, listed => (Region.ready .any ops listed).any (Nat.beq i) && Region.free .any ops listed i && decide (i < m) &&
      (match ops[i]? with | some ⟨some _, .move _, _, _, _, none⟩ => true | _ => false) && floatsOk ops m F (listed.setIfInBounds i true)

/-- What must come before an operation, as the bits of a number; 'done': of those ahead of it. -/
def maskOf (done : List Nat) (es : List Edge) : Nat := match es with
  | [] => 0
  | e :: r => if Region.binds .any e then (2 ^ e.on ||| done.getD e.on 0) ||| maskOf done r else maskOf done r

def masksGo : List Oper → List Nat → List Nat
  | [], acc => acc
  | o :: r, acc => masksGo r (acc ++ [maskOf acc o.after.toList])

/-- All that must come before operation i, as bits. -/
def pmask (ops : Array Oper) (i : Nat) : Nat := (masksGo ops.toList []).getD i 0

theorem maskOf_spec {done : List Nat} {j : Nat} : ∀ {es : List Edge}, (maskOf done es).testBit j = true → ∃ e ∈ es, Region.binds .any e = true ∧ (j = e.on ∨ (done.getD e.on 0).testBit j = true)
  | [], h => by simp [maskOf] at h
  | e :: r, h => by
    unfold maskOf at h
    split at h
    · rename_i hb
      rw [Nat.testBit_or, Nat.testBit_or, Bool.or_eq_true, Bool.or_eq_true] at h
      rcases h with (h | h) | h
      · refine ⟨e, by simp, hb, .inl ?_⟩
        rw [Nat.testBit_two_pow] at h
        exact (of_decide_eq_true h).symm
      · exact ⟨e, by simp, hb, .inr h⟩
      · obtain ⟨e', he, h1⟩ := maskOf_spec h
        exact ⟨e', by simp [he], h1⟩
    · obtain ⟨e', he, h1⟩ := maskOf_spec h
      exact ⟨e', by simp [he], h1⟩

theorem masksGo_spec {ops : Array Oper} : ∀ (l : List Oper) (acc : List Nat), ops.toList.drop acc.length = l → (∀ i j, (acc.getD i 0).testBit j = true → ∃ n, j ∈ preds ops n i) →
    ∀ i j, ((masksGo l acc).getD i 0).testBit j = true → ∃ n, j ∈ preds ops n i
  | [], acc, _, hacc => hacc
  | o :: l, acc, hd, hacc => by
    rw [masksGo]
    have hlt : acc.length < ops.toList.length := by
      rcases Nat.lt_or_ge acc.length ops.toList.length with h | h
      · exact h
      · rw [List.drop_of_length_le h] at hd; cases hd
    rw [List.drop_eq_getElem_cons hlt] at hd
    simp only [List.cons.injEq] at hd
    refine masksGo_spec l _ (by rw [List.length_append, List.length_singleton]; exact hd.2) fun i j h => ?_
    rcases Nat.lt_trichotomy i acc.length with hi | hi | hi
    · rw [List.getD_eq_getElem?_getD, List.getElem?_append_left hi, ← List.getD_eq_getElem?_getD] at h
      exact hacc i j h
    · subst hi
      rw [List.getD_eq_getElem?_getD, List.getElem?_append_right (Nat.le_refl _), Nat.sub_self] at h
      simp only [List.getElem?_cons_zero, Option.getD_some] at h
      obtain ⟨e, he, hb, h1⟩ := maskOf_spec h
      have ho : ops[acc.length]? = some o := by
        rw [← Array.getElem?_toList, List.getElem?_eq_getElem hlt, hd.1]
      have hm : ∀ n k, (k = e.on ∨ k ∈ preds ops n e.on) → k ∈ preds ops (n + 1) acc.length := fun n k hk => by
        simp only [preds, ho]
        exact List.mem_flatMap.2 ⟨e, List.mem_filter.2 ⟨he, hb⟩, by rcases hk with rfl | hk <;> simp [*]⟩
      rcases h1 with h1 | h1
      · exact ⟨1, hm 0 j (.inl h1)⟩
      · obtain ⟨n, hn⟩ := hacc _ _ h1
        exact ⟨n + 1, hm n j (.inr hn)⟩
    · rw [List.getD_eq_getElem?_getD, List.getElem?_eq_none (by simp; omega)] at h
      simp at h

theorem pmask_spec {ops : Array Oper} {i j : Nat} (h : (pmask ops i).testBit j = true) : ∃ n, j ∈ preds ops n i :=
  masksGo_spec ops.toList [] rfl (fun i j h => by simp at h) i j h

/-- The first m operations can be taken as the calculus takes them; the rest come behind all of them but the moves F. -/
def drawOk (N : Nat) (ops : Array Oper) (m : Nat) (F : List Nat) (pl : Plan) : Bool :=
  Region.noSelect ops && decide (m ≤ ops.size) &&
  ((List.range ops.size).all fun i => match ops[i]? with
    | none => false
    | some o =>
      (o.after.all fun e => !Region.binds .any e || decide (e.on < i)) && ((o.looksAt ops).all fun t => decide (t < N)) &&
      (if i < m then
        (List.range m).all fun j => match ops[j]? with
          | none => false
          | some p => (Nat.beq i j || (pl.t j).all fun t => (pl.o i).any (Nat.beq t) && ((pmask ops j).testBit i || (pl.b i).any (Nat.beq t))) && match p.dst with
            | none => true
            | some t => (Nat.beq i j || !(o.dst == some t)) && (!((o.looksAt ops).any (Nat.beq t)) || (if j < i then (pmask ops i).testBit j else (pmask ops j).testBit i))
      else (List.range m).all fun j => (pmask ops i).testBit j || F.any (Nat.beq j))) &&
  floatsOk ops m F (Array.replicate ops.size false)

section
variable {P : Program} {N : Nat}

/-- Every order that is left, from these that have been run on. -/
structure RT (P : Program) (f : FuncId) (N : Nat) (ops : Array Oper) (k : List Item) (R : Value → World → Prop) (fuel : Nat) (listed : Array Bool) (fr : Fr) (w : World) : Prop where
  out : ∀ a, Rep N fr a → wpAny P .any ops (Post P f k R) fuel listed a w

theorem preds_listed {ops : Array Oper} {listed : Array Bool} (hcl : ∀ i o, ops[i]? = some o → listed.getD i false = true → ∀ e ∈ o.after, Region.binds .any e = true → listed.getD e.on false = true) :
    ∀ (n i : Nat), listed.getD i false = true → ∀ j ∈ preds ops n i, listed.getD j false = true
  | 0, _, _, j, hj => by simp [preds] at hj
  | n + 1, i, hi, j, hj => by
    simp only [preds] at hj
    split at hj
    · cases hj
    · rename_i o ho
      obtain ⟨e, he, hj⟩ := List.mem_flatMap.1 hj
      obtain ⟨he1, he2⟩ := List.mem_filter.1 he
      have hl := hcl i o ho hi e (by simpa using he1) he2
      rcases List.mem_cons.1 hj with h | h
      · rw [h]; exact hl
      · exact preds_listed hcl n e.on hl j h

theorem preds_of_ready {ops : Array Oper} {listed : Array Bool} (hcl : ∀ i o, ops[i]? = some o → listed.getD i false = true → ∀ e ∈ o.after, Region.binds .any e = true → listed.getD e.on false = true)
    {i : Nat} (hi : i ∈ Region.ready .any ops listed) (n : Nat) : ∀ j ∈ preds ops n i, listed.getD j false = true := by
  obtain ⟨_, o, ho, hall⟩ := mem_ready.1 hi
  intro j hj
  cases n with
  | zero => simp [preds] at hj
  | succ n =>
    simp only [preds, ho] at hj
    obtain ⟨e, he, hj⟩ := List.mem_flatMap.1 hj
    obtain ⟨he1, he2⟩ := List.mem_filter.1 he
    have hl := hall e (by simpa using he1) he2
    rcases List.mem_cons.1 hj with h | h
    · rw [h]; exact hl
    · exact preds_listed hcl n e.on hl j h

theorem nbeq {a b : Nat} : Nat.beq a b = true ↔ a = b := ⟨Nat.eq_of_beq_eq_true, fun h => by subst h; exact Nat.beq_refl a⟩

/-- What 'DW' says, operation by operation. -/
theorem DW.all {S : Rel} {pl : Plan} {ops : Array Oper} {fr : Fr} {M0 : Mut} {w0 : World} {fin : List (Nat × Ty) → Prop} : ∀ {l : List Oper} {G : List (Nat × Ty)}, DW P N S pl ops fr M0 w0 fin l G →
    ∃ Ts : List (Nat × Ty), Ts.length = l.length ∧ fin (G ++ Ts) ∧ ∀ k o, l[k]? = some o → ∃ d T, Ts[k]? = some (d, T) ∧ SlotOk N o (G.length + k) d T ∧ Stab S (pl.o (G.length + k)) T ∧ Ob P N S (pl.b (G.length + k)) (pl.t (G.length + k)) ops fr M0 w0 o (G ++ Ts.take k) T
  | [], G, h => ⟨[], rfl, by simpa [DW] using h, fun k o hk => by simp at hk⟩
  | o :: l, G, h => by
    obtain ⟨d, T, h1, h3, h4, h5⟩ := h
    obtain ⟨Ts, k1, k2, k3⟩ := h5.all
    refine ⟨(d, T) :: Ts, by simp [k1], by simpa using k2, fun k o' hk => ?_⟩
    cases k with
    | zero =>
      simp at hk
      subst hk
      exact ⟨d, T, by simp, h1, h3, by simpa using h4⟩
    | succ k =>
      obtain ⟨d', T', q1, q2, q4, q5⟩ := k3 k o' (by simpa using hk)
      rw [List.length_append, List.length_singleton, show G.length + 1 + k = G.length + (k + 1) by omega] at q2 q4 q5
      exact ⟨d', T', by simpa using q1, q2, q4, by simpa using q5⟩

/-- A frame that agrees where the operation looks serves as well. -/
theorem OP.at {o : Oper} {ops : Array Oper} {fr : Fr} {w : World} {Ψ : Value → World → Prop} (h : OP P N o fr w Ψ) (hs : ∀ cs b, o.op ≠ .select cs b) {a : Act} (hN : a.tmps.size = N) (_hd : a.defers = [])
    (hout : ∀ t v, look fr t = some v → N ≤ t → v = undef) (hl : ∀ t v, look fr t = some v → t ∈ o.looksAt ops → a.tmps.getD t undef = v) :
    (∃ v w', (execOp a.eval o).run P w = .ok (.value v) w' ∧ Ψ v w') ∨
    (∃ w', (execOp a.eval o).run P w = .ok .skip w' ∧ Ψ undef w') ∨
    (∃ g args w', (execOp a.eval o).run P w = .ok (.enter g args.toArray) w' ∧ CallsV P g args w' Ψ) := by
  let a0 : Act := { tmps := Array.ofFn (n := N) fun t => (look fr t.1).getD (a.tmps.getD t.1 undef), defers := [] }
  have hrep : Rep N fr a0 := by
    refine ⟨by simp [a0], rfl, fun t v hv => ?_⟩
    by_cases ht : t < N
    · simp [a0, ht, hv]
    · have := hout t v hv (by omega)
      simp [a0, ht, this]
  have hev : execOp a0.eval o = execOp a.eval o := execOp_congr o hs fun x hx => by
    cases x with
    | tmp t =>
      have hmem : t ∈ o.looksAt ops := List.mem_append_left _ (List.mem_filterMap.2 ⟨.tmp t, by simpa using hx, rfl⟩)
      simp only [Act.eval]
      by_cases ht : t < N
      · cases hv : look fr t with
        | none => simp [a0, ht, hv]
        | some v =>
          have := hl t v hv hmem
          simp only [a0]
          rw [this]
          simp [ht, hv]
      · have h1 : ¬ t < a.tmps.size := by rw [hN]; exact ht
        simp [a0, ht, h1]
    | _ => rfl
  have := h.out a0 hrep
  rw [hev] at this
  exact this

/-- In the state a an operation's guard and effect. -/
theorem wpOp_of {o : Oper} {ops : Array Oper} {i : Nat} (hi : ops[i]? = some o) {fr : Fr} {w : World} {Ψ : Value → World → Prop} (h : OPG P N ops o fr w Ψ) (hs : ∀ cs b, o.op ≠ .select cs b) {a : Act} (hN : a.tmps.size = N) (hd : a.defers = [])
    (hout : ∀ t v, look fr t = some v → N ≤ t → v = undef) (hl : ∀ t v, look fr t = some v → t ∈ o.looksAt ops → a.tmps.getD t undef = v)
    {Q : Exit → Act → World → Prop} {K : Act → World → Prop} (hK : ∀ v w', Ψ v w' → K (a.put o.dst v) w') : wpOp P ops Q i K a w := by
  unfold wpOp
  simp only [hi]
  have run : OP P N o fr w Ψ → o.wp P a w K Q := fun h => by
    unfold Oper.wp
    rcases h.at hs hN hd hout hl with ⟨v, w', e, p⟩ | ⟨w', e, p⟩ | ⟨g, args, w', e, p⟩
    · rw [e]; exact hK _ _ p
    · rw [e]; exact hK _ _ p
    · rw [e]; exact Calls.mono p fun e' w'' ⟨v, he, hp⟩ => by subst he; exact hK _ _ hp
  rcases h with ⟨hg, h⟩ | ⟨j, want, dj, b, hg, hj, hlk, h⟩
  · rw [if_pos (by simp [Region.wanted, hg])]
    exact .inl (run h)
  · have hm : dj ∈ o.looksAt ops := by
      refine List.mem_append_right _ ?_
      simp [hg, hj]
    have hv := hl dj _ hlk hm
    have hy : yielded ops a.tmps j = some b := by
      unfold yielded
      rw [hj]
      have hlt : dj < a.tmps.size := by
        rcases Nat.lt_or_ge dj a.tmps.size with h' | h'
        · exact h'
        · simp [Array.getElem?_eq_none h', undef] at hv
      have : a.tmps[dj]? = some (.bool b) := by
        simp [hlt] at hv ⊢; exact hv
      simp [this]
    rcases h with ⟨rfl, h⟩ | ⟨hne, h⟩
    · rw [if_pos (by simp [Region.wanted, hg, hy])]
      exact .inl (run h)
    · rw [if_neg (by simp [Region.wanted, hg, hy, hne])]
      exact hK _ _ h

/-- The tags under which the operations that have been run wrote. -/
def ran (pl : Plan) (m : Nat) (listed : Array Bool) : List Nat := (List.range m).flatMap fun j => if listed.getD j false then pl.t j else []

theorem mem_ran {pl : Plan} {m : Nat} {listed : Array Bool} {t : Nat} : t ∈ ran pl m listed ↔ ∃ j, j < m ∧ listed.getD j false = true ∧ t ∈ pl.t j := by
  unfold ran
  rw [List.mem_flatMap]
  constructor
  · rintro ⟨j, hj, h⟩
    split at h
    · rename_i hl; exact ⟨j, by simpa using hj, hl, h⟩
    · cases h
  · rintro ⟨j, hj, hl, h⟩
    exact ⟨j, by simpa using hj, by rw [if_pos hl]; exact h⟩

structure DInv (N : Nat) (S : Rel) (pl : Plan) (fr : Fr) (M0 : Mut) (w0 : World) (ops : Array Oper) (m : Nat) (Ts : List (Nat × Ty)) (listed : Array Bool) (a : Act) (M : Mut) (w : World) : Prop where
  size : listed.size = ops.size
  tmps : a.tmps.size = N
  defers : a.defers = []
  below : S (ran pl m listed) M0 w0 M w
  closed : ∀ i o, ops[i]? = some o → listed.getD i false = true → ∀ e ∈ o.after, Region.binds .any e = true → listed.getD e.on false = true
  tail : ∀ i, m ≤ i → listed.getD i false = false
  typed : ∀ i d T, i < m → listed.getD i false = true → Ts[i]? = some (d, T) → T M w (a.tmps.getD d undef)
  rest : ∀ t v, look fr t = some v → (∀ j d T, j < m → listed.getD j false = true → Ts[j]? = some (d, T) → d ≠ t) → a.tmps.getD t undef = v

theorem getD_set_self {listed : Array Bool} {i : Nat} (h : i < listed.size) : (listed.setIfInBounds i true).getD i false = true := by
  simp [h]

def falseIn (listed : Array Bool) : Nat := (listed.toList.filter (! ·)).length

theorem falseIn_set {listed : Array Bool} {i : Nat} (h : i < listed.size) (hf : listed.getD i true = false) : falseIn (listed.setIfInBounds i true) + 1 = falseIn listed := by
  unfold falseIn
  obtain ⟨l⟩ := listed
  simp at h hf ⊢
  have hg : l[i]? = some false := by
    rw [List.getElem?_eq_getElem h] at hf ⊢
    simpa using hf
  clear hf
  induction l generalizing i with
  | nil => simp at h
  | cons b l ih =>
    cases i with
    | zero =>
      simp at hg
      subst hg
      simp
    | succ i =>
      simp at hg h
      have := ih h hg
      cases b <;> simp [this]

/-- **EVERY ORDER**: a region that draws its order, the first m operations by their kinds, then the others. -/
theorem region_draw {f : FuncId} {fr : Fr} {M : Mut} {w : World} {k : List Item} {R : Value → World → Prop} {id : Nat} {ops : Array Oper} {S : Rel} (hS : RelOk S) (pl : Plan) (m : Nat) (F : List Nat) (hm : P.follows .mixedOrders = true)
    (hok : drawOk N ops m F pl = true)
    (h : ∀ w1, Below w.heap.size w w1 → DW P N S pl ops fr M w1 (fun G => ∀ M' w', S (ran pl m (Array.replicate m true)) M w1 M' w' → TyAll G M' w' (fun fr' => RT P f N ops k R (ops.size - m) (Array.replicate m true ++ Array.replicate (ops.size - m) false) fr' w') fr) (ops.toList.take m) []) :
    Run P f N (.code (.region id ops true) :: k) fr w R := by
  refine run_region_any hm fun a ha => ?_
  have h := h { w with drawn := w.drawn + 1 } ⟨rfl, rfl, rfl, Nat.le_refl _, fun _ _ => rfl⟩
  generalize ({ w with drawn := w.drawn + 1 } : World) = w1 at h ⊢
  obtain ⟨Ts, hlen, hfin, hobs⟩ := h.all
  simp only [List.nil_append] at hfin hobs
  simp only [drawOk, Bool.and_eq_true, decide_eq_true_eq] at hok
  obtain ⟨⟨⟨hsel, hmle⟩, hall⟩, hfl⟩ := hok
  have hnosel := Region.noSelect_spec hsel
  rw [List.all_eq_true] at hall
  have hTl : Ts.length = m := by rw [hlen]; simp; omega
  have hget : ∀ i, i < m → ∀ o, ops[i]? = some o → ∃ d T, Ts[i]? = some (d, T) ∧ SlotOk N o i d T ∧ Stab S (pl.o i) T ∧ Ob P N S (pl.b i) (pl.t i) ops fr M w1 o (Ts.take i) T := fun i hi o ho => by
    have := hobs i o (by
      rw [List.getElem?_take, if_pos hi]
      simpa using ho)
    simpa using this
  have hedge : ∀ i o, ops[i]? = some o → ∀ e ∈ o.after, Region.binds .any e = true → e.on < i := fun i o ho e he hb => by
    have hi : i < ops.size := (Array.getElem?_eq_some_iff.1 ho).1
    have h1 := hall i (by simpa using hi)
    simp only [ho, Bool.and_eq_true] at h1
    have h2 := Array.all_eq_true_iff_forall_mem.1 h1.1.1 e he
    simpa [hb] using h2
  have hlook : ∀ (i : Nat) (o : Oper), ops[i]? = some o → ∀ t : Nat, t ∈ o.looksAt ops → t < N := fun i o ho t ht => by
    have h1 := hall i (by simpa using (Array.getElem?_eq_some_iff.1 ho).1)
    simp only [ho, Bool.and_eq_true] at h1
    have h2 := List.all_eq_true.1 h1.1.2 t ht
    simpa using h2
  have hpre : ∀ i o j p t, i < m → ops[i]? = some o → j < m → ops[j]? = some p → p.dst = some t → (i = j ∨ o.dst ≠ some t) ∧ (t ∈ o.looksAt ops → (if j < i then ∃ n, j ∈ preds ops n i else ∃ n, i ∈ preds ops n j)) := fun i o j p t hi ho hj hp ht => by
    have h1 := hall i (by simpa using (Array.getElem?_eq_some_iff.1 ho).1)
    simp only [ho, Bool.and_eq_true, hi, if_true] at h1
    have h2 := List.all_eq_true.1 h1.2 j (by simpa using hj)
    simp only [hp, ht, Bool.and_eq_true] at h2
    replace h2 := h2.2
    simp only [Bool.or_eq_true, Bool.not_eq_true', beq_eq_false_iff_ne] at h2
    refine ⟨h2.1.imp (fun h => nbeq.1 h) (fun h => h), fun hmem => ?_⟩
    rcases h2.2 with h3 | h3
    · rw [List.any_eq_true.2 ⟨t, hmem, nbeq.2 rfl⟩] at h3; cases h3
    · split at h3 <;> rename_i hc
      · rw [if_pos hc]
        exact pmask_spec h3
      · rw [if_neg hc]
        exact pmask_spec h3
  have htags : ∀ i o j t, i < m → ops[i]? = some o → j < m → j ≠ i → t ∈ pl.t j → t ∈ pl.o i ∧ ((∃ n, i ∈ preds ops n j) ∨ t ∈ pl.b i) := fun i o j t hi ho hj hne ht => by
    have h1 := hall i (by simpa using (Array.getElem?_eq_some_iff.1 ho).1)
    simp only [ho, Bool.and_eq_true, hi, if_true] at h1
    have h2 := List.all_eq_true.1 h1.2 j (by simpa using hj)
    have hjs : j < ops.size := by omega
    simp only [show ops[j]? = some ops[j] by simp [hjs], Bool.and_eq_true, Bool.or_eq_true] at h2
    rcases h2.1 with h3 | h3
    · exact absurd (nbeq.1 h3).symm hne
    · have h4 := List.all_eq_true.1 h3 t ht
      simp only [Bool.and_eq_true, Bool.or_eq_true] at h4
      obtain ⟨x, hx, hxe⟩ := List.any_eq_true.1 h4.1
      refine ⟨by rw [nbeq.1 hxe]; exact hx, h4.2.imp (fun h => pmask_spec h) (fun h => ?_)⟩
      · obtain ⟨y, hy, hye⟩ := List.any_eq_true.1 h
        rw [nbeq.1 hye]; exact hy
  have htail : ∀ i o, m ≤ i → ops[i]? = some o → ∀ j, j < m → (∃ n, j ∈ preds ops n i) ∨ j ∈ F := fun i o hi ho j hj => by
    have h1 := hall i (by simpa using (Array.getElem?_eq_some_iff.1 ho).1)
    simp only [ho, Bool.and_eq_true, if_neg (show ¬ i < m by omega)] at h1
    have h2 := List.all_eq_true.1 h1.2 j (by simpa using hj)
    rw [Bool.or_eq_true] at h2
    rcases h2 with h2 | h2
    · exact .inl (pmask_spec h2)
    · obtain ⟨x, hx, hxe⟩ := List.any_eq_true.1 h2
      rw [nbeq.1 hxe]; exact .inr hx
  have hout : ∀ t v, look fr t = some v → N ≤ t → v = undef := fun t v hv ht => by
    have := ha.slot t v hv
    rw [← this]
    have : ¬ t < a.tmps.size := by rw [ha.size]; omega
    simp [this]
  have fin : ∀ {n : Nat} {listed : Array Bool} {a : Act} {M' : Mut} {w : World}, falseIn listed = n → DInv N S pl fr M w1 ops m Ts listed a M' w → (∀ j, j < m → listed.getD j false = true) → wpAny P .any ops (Post P f k R) n listed a w := by
    intro n listed a M' w hn hI hp
    have hlist : listed = Array.replicate m true ++ Array.replicate (ops.size - m) false := by
      apply Array.ext
      · rw [hI.size]; simp; omega
      · intro i h1 h2
        rcases Nat.lt_or_ge i m with hi | hi
        · have := hp i hi
          simp [h1] at this
          rw [this, Array.getElem_append_left (by simp; exact hi)]
          simp
        · have := hI.tail i hi
          simp [h1] at this
          rw [this, Array.getElem_append_right (by simp; exact hi)]
          simp
    have hn' : n = ops.size - m := by
      rw [← hn, hlist]
      simp [falseIn]
    have h1 := hfin M' w (hS.mono (fun t ht => by
      obtain ⟨j, hj, _, hjt⟩ := mem_ran.1 ht
      exact mem_ran.2 ⟨j, hj, by simp [hj], hjt⟩) hI.below)
    have h2 := TyAll.inst (fun d => a.tmps.getD d undef) h1 (fun p hp' => by
      obtain ⟨i, hi⟩ := List.mem_iff_getElem?.1 hp'
      have him : i < m := by rw [← hTl]; exact (List.getElem?_eq_some_iff.1 hi).1
      exact hI.typed i p.1 p.2 him (hp i him) hi)
    have hrep : Rep N (fold (fun d => a.tmps.getD d undef) Ts fr) a := ⟨hI.tmps, hI.defers, fun t v hv => by
      rcases look_fold _ Ts fr t v hv with ⟨_, h2⟩ | ⟨h0, h2⟩
      · exact h2.symm
      · refine hI.rest t v h2 fun j d T hj hl hT hd => h0 ?_
        subst hd
        exact List.mem_map.2 ⟨(d, T), List.mem_iff_getElem?.2 ⟨j, hT⟩, rfl⟩⟩
    have h3 := h2.out a hrep
    rw [← hlist, ← hn'] at h3
    exact h3
  have hdst : ∀ j d T, j < m → Ts[j]? = some (d, T) → ∃ p, ops[j]? = some p ∧ SlotOk N p j d T ∧ Stab S (pl.o j) T := fun j d T hj hT => by
    have hjs : j < ops.size := by omega
    obtain ⟨d', T', q1, q2, q4, _⟩ := hget j hj ops[j] (by simp [hjs])
    rw [hT] at q1
    cases q1
    exact ⟨ops[j], by simp [hjs], q2, q4⟩
  have unlisted : ∀ {listed : Array Bool} {i : Nat}, listed.size = ops.size → i ∈ Region.ready .any ops listed → i < listed.size ∧ listed.getD i false = false := fun {listed i} hsz hi => by
    obtain ⟨hun, o, ho, _⟩ := mem_ready.1 hi
    have hil : i < listed.size := by rw [hsz]; exact (Array.getElem?_eq_some_iff.1 ho).1
    refine ⟨hil, ?_⟩
    simp [hil] at hun ⊢
    exact hun
  have phi : ∀ {listed : Array Bool} {a : Act} {M' : Mut} {w : World} {i : Nat} {o : Oper} {d : Nat} {T : Ty}, DInv N S pl fr M w1 ops m Ts listed a M' w → i ∈ Region.ready .any ops listed → i < m → ops[i]? = some o →
      Ob P N S (pl.b i) (pl.t i) ops fr M w1 o (Ts.take i) T → ∃ fr', OPG P N ops o fr' w (fun v w' => ∃ M2, S (pl.t i) M' w M2 w' ∧ T M2 w' v) ∧ (∀ t v, look fr' t = some v → N ≤ t → v = undef) ∧ (∀ t v, look fr' t = some v → t ∈ o.looksAt ops → a.tmps.getD t undef = v) := by
    intro listed a M' w i o d T hI hi him ho hob
    obtain ⟨hil, hun'⟩ := unlisted hI.size hi
    have hseen : ∀ p ∈ seenBy ops o (Ts.take i), ∃ j, j < i ∧ Ts[j]? = some p ∧ p.1 ∈ o.looksAt ops := fun p hp' => by
      obtain ⟨h1, h2⟩ := List.mem_filter.1 hp'
      obtain ⟨j, hj⟩ := List.mem_iff_getElem?.1 h1
      rw [List.getElem?_take] at hj
      split at hj
      · rename_i hji
        obtain ⟨x, hx, hxe⟩ := List.any_eq_true.1 h2
        rw [← nbeq.1 hxe] at hx
        exact ⟨j, hji, hj, hx⟩
      · cases hj
    have hpre' : S (pl.b i) M w1 M' w := hS.mono (fun t ht => by
      obtain ⟨j, hj, hl, hjt⟩ := mem_ran.1 ht
      have hne : j ≠ i := fun e => by subst e; rw [hun'] at hl; cases hl
      rcases (htags i o j t him ho hj hne hjt).2 with ⟨n, h⟩ | h
      · have := preds_listed hI.closed n j hl i h
        rw [hun'] at this
        cases this
      · exact h) hI.below
    have hphi := TyAll.inst (fun d => a.tmps.getD d undef) (hob M' w hpre') (fun p hp' => by
      obtain ⟨j, hji, hj, hmem⟩ := hseen p hp'
      obtain ⟨q, hq1, hq2, _⟩ := hdst j p.1 p.2 (by omega) hj
      rcases hq2 with ⟨hq2, _⟩ | ⟨_, hq2, _⟩
      · have := (hpre i o j q p.1 him ho (by omega) hq1 hq2).2 hmem
        rw [if_pos hji] at this
        obtain ⟨n, this⟩ := this
        exact hI.typed j p.1 p.2 (by omega) (preds_of_ready hI.closed hi n j this) hj
      · have := hlook i o ho p.1 hmem
        omega)
    refine ⟨_, hphi, fun t v hv ht => ?_, fun t v hv hmem => ?_⟩
    · rcases look_fold _ _ fr t v hv with ⟨_, h2⟩ | ⟨_, h2⟩
      · have : ¬ t < a.tmps.size := by rw [hI.tmps]; omega
        rw [h2]
        simp [this]
      · exact hout t v h2 ht
    · rcases look_fold _ _ fr t v hv with ⟨_, h2⟩ | ⟨h0, h2⟩
      · exact h2.symm
      · refine hI.rest t v h2 fun j d' T' hj hl hTj hd => ?_
        subst hd
        obtain ⟨q, hq1, hq2, _⟩ := hdst j d' T' hj hTj
        have hlt := hlook i o ho d' hmem
        rcases hq2 with ⟨hq2, _⟩ | ⟨_, hq2, _⟩
        case inr => omega
        have h3 := (hpre i o j q d' him ho hj hq1 hq2).2 hmem
        split at h3
        · rename_i hji
          refine h0 (List.mem_map.2 ⟨(d', T'), List.mem_filter.2 ⟨?_, List.any_eq_true.2 ⟨d', hmem, nbeq.2 rfl⟩⟩, rfl⟩)
          refine List.mem_iff_getElem?.2 ⟨j, ?_⟩
          rw [List.getElem?_take, if_pos hji]
          exact hTj
        · obtain ⟨n, h3⟩ := h3
          have := preds_listed hI.closed n j hl i h3
          rw [this] at hun'
          cases hun'
  have upd : ∀ {listed : Array Bool} {a : Act} {M' M2 : Mut} {w w' : World} {i : Nat} {o : Oper} {d : Nat} {T : Ty} {v : Value}, DInv N S pl fr M w1 ops m Ts listed a M' w → i ∈ Region.ready .any ops listed → i < m → ops[i]? = some o →
      Ts[i]? = some (d, T) → SlotOk N o i d T → S (pl.t i) M' w M2 w' → T M2 w' v → DInv N S pl fr M w1 ops m Ts (listed.setIfInBounds i true) (a.put o.dst v) M2 w' := by
    intro listed a M' M2 w w' i o d T v hI hi him ho hT1 hT2 hb hTv
    obtain ⟨hil, hun'⟩ := unlisted hI.size hi
    obtain ⟨hun, o', ho', hedges⟩ := mem_ready.1 hi
    rw [ho] at ho'
    cases ho'
    have hput : ∀ t, (∀ d, o.dst = some d → d ≠ t) → (a.put o.dst v).tmps.getD t undef = a.tmps.getD t undef := fun t ht => by
      cases hd : o.dst with
      | none => rfl
      | some d =>
        have hne := ht d hd
        simp [Act.put, Array.getElem?_setIfInBounds_ne hne]
    refine ⟨by simp [hI.size], ?_, ?_, ?_, ?_, ?_, ?_, ?_⟩
    · cases o.dst <;> simp [Act.put, hI.tmps]
    · cases o.dst <;> exact hI.defers
    · refine hS.trans (hS.mono (fun t ht => ?_) hI.below) (hS.mono (fun t ht => ?_) hb)
      · obtain ⟨j, hj, hl, hjt⟩ := mem_ran.1 ht
        exact mem_ran.2 ⟨j, hj, getD_set_true hl, hjt⟩
      · exact mem_ran.2 ⟨i, him, getD_set_self hil, ht⟩
    · intro i' o' ho' hl' e he hbe
      by_cases e1 : i = i'
      · subst e1
        rw [ho] at ho'
        cases ho'
        exact getD_set_true (hedges e he hbe)
      · rw [getD_set_ne false e1] at hl'
        exact getD_set_true (hI.closed i' o' ho' hl' e he hbe)
    · intro i' hi'
      rw [getD_set_ne false (by omega)]
      exact hI.tail i' hi'
    · intro i' d' T' hi' hl' hT'
      by_cases e1 : i = i'
      · subst e1
        rw [hT1] at hT'
        cases hT'
        rcases hT2 with ⟨hT2, hT3⟩ | ⟨_, _, hany⟩
        · have hd : d < a.tmps.size := by rw [hI.tmps]; exact hT3
          rw [hT2]
          simp [Act.put, hd]
          exact hTv
        · exact hany _ _ _ _ hTv
      · rw [getD_set_ne false e1] at hl'
        obtain ⟨q, hq1, hq2, hq3⟩ := hdst i' d' T' hi' hT'
        have h4 := hI.typed i' d' T' hi' hl' hT'
        have h5 := hq3 _ _ _ _ _ (hS.mono (fun t ht => (htags i' q i t hi' hq1 him e1 ht).1) hb) h4
        rcases hq2 with ⟨hq2, _⟩ | ⟨_, _, hany⟩
        · rw [hput d' (fun d hd he => by
            subst he
            rcases (hpre i o i' q d him ho hi' hq1 hq2).1 with h' | h'
            · exact e1 h'
            · exact h' hd)]
          exact h5
        · exact hany _ _ _ _ h5
    · intro t u hu hno
      have hne : d ≠ t := hno i d T him (getD_set_self hil) hT1
      rw [hput t (fun d' hd' => by
        rcases hT2 with ⟨hT2, _⟩ | ⟨hT2, _⟩
        · rw [hT2] at hd'; cases hd'; exact hne
        · rw [hT2] at hd'; cases hd')]
      exact hI.rest t u hu fun j d' T' hj hl hT' => hno j d' T' hj (getD_set_true hl) hT'
  have key : ∀ (n : Nat) (listed : Array Bool) (a : Act) (M' : Mut) (w : World), falseIn listed = n → DInv N S pl fr M w1 ops m Ts listed a M' w → (∀ j ∈ F, listed.getD j false = true) → wpAny P .any ops (Post P f k R) n listed a w := by
    intro n
    induction n with
    | zero =>
      intro listed a M' w hn hI _
      have hallt : ∀ i, i < ops.size → listed.getD i false = true := fun i hi => by
        unfold falseIn at hn
        have h0 := List.eq_nil_of_length_eq_zero hn
        rw [List.filter_eq_nil_iff] at h0
        have hi' : i < listed.size := by rw [hI.size]; exact hi
        have := h0 listed[i] (by simp)
        simp [hi']
        simpa using this
      exact fin hn hI (fun i hi => hallt i (by omega))
    | succ n ih =>
      intro listed a M' w hn hI hF
      by_cases hp : ∀ j, j < m → listed.getD j false = true
      · exact fin hn hI hp
      · have hex : ∃ j, j < m ∧ listed.getD j false = false := by
          apply Classical.byContradiction
          intro hno
          refine hp fun j hj => ?_
          cases hb : listed.getD j false
          · exact absurd ⟨j, hj, hb⟩ hno
          · rfl
        obtain ⟨j0, hj0, hf0⟩ := hex
        have hready : ∀ j, j < ops.size → listed.getD j false = false → ∃ i, i ∈ Region.ready .any ops listed := by
          intro j
          induction j using Nat.strongRecOn with
          | _ j ihj =>
            intro hj hf
            by_cases hlow : ∃ i, i < j ∧ listed.getD i false = false
            · obtain ⟨i, hi, hfi⟩ := hlow
              exact ihj i hi (by omega) hfi
            · refine ⟨j, mem_ready.2 ⟨?_, ops[j], by simp [hj], fun e he hb => ?_⟩⟩
              · have hj' : j < listed.size := by rw [hI.size]; exact hj
                simp [hj'] at hf ⊢
                exact hf
              · have hlt := hedge j ops[j] (by simp [hj]) e he hb
                cases hb' : listed.getD e.on false
                · exact absurd ⟨e.on, hlt, hb'⟩ hlow
                · rfl
        refine ⟨fun h0 => ?_, fun i hi => ?_⟩
        · obtain ⟨i, hi⟩ := hready j0 (by omega) hf0
          rw [h0] at hi
          cases hi
        · obtain ⟨hun, o, ho, hedges⟩ := mem_ready.1 hi
          obtain ⟨hil, hun'⟩ := unlisted hI.size hi
          have him : i < m := by
            rcases Nat.lt_or_ge i m with h' | h'
            · exact h'
            · rcases htail i o h' ho j0 hj0 with ⟨n, h2⟩ | h2
              · have := preds_of_ready hI.closed hi n j0 h2
                rw [this] at hf0
                cases hf0
              · rw [hF j0 h2] at hf0
                cases hf0
          obtain ⟨d, T, hT1, hT2, hT4, hob⟩ := hget i him o ho
          obtain ⟨fr', hphi, ho1, ho2⟩ := phi (d := d) hI hi him ho hob
          refine wpOp_of ho hphi (fun cs b => hnosel i o cs b ho) hI.tmps hI.defers ho1 ho2 (fun v w' hv => ?_)
          obtain ⟨M2, hb, hTv⟩ := hv
          exact ih _ _ M2 w' (by have := falseIn_set hil hun; omega) (upd hI hi him ho hT1 hT2 hb hTv) (fun j hj => getD_set_true (hF j hj))
  have pull : ∀ (F' : List Nat) (n : Nat) (listed : Array Bool) (a : Act) (M' : Mut), floatsOk ops m F' listed = true → falseIn listed = n → DInv N S pl fr M w1 ops m Ts listed a M' w1 →
      (∀ j ∈ F, j ∈ F' ∨ listed.getD j false = true) → wpAny P .any ops (Post P f k R) n listed a w1 := by
    intro F'
    induction F' with
    | nil =>
      intro n listed a M' _ hn hI hF
      exact key n listed a M' w1 hn hI (fun j hj => (hF j hj).resolve_left (by simp))
    | cons i F' ih =>
      intro n listed a M' hok hn hI hF
      simp only [floatsOk, Bool.and_eq_true, decide_eq_true_eq] at hok
      obtain ⟨⟨⟨⟨h1, h2⟩, him⟩, h3⟩, h4⟩ := hok
      obtain ⟨x, hx, hxe⟩ := List.any_eq_true.1 h1
      have hi : i ∈ Region.ready .any ops listed := by rw [nbeq.1 hxe]; exact hx
      obtain ⟨hun, o, ho, hedges⟩ := mem_ready.1 hi
      obtain ⟨hil, hun'⟩ := unlisted hI.size hi
      obtain ⟨d, T, hT1, hT2, hT4, hob⟩ := hget i him o ho
      obtain ⟨fr', hphi, ho1, ho2⟩ := phi (d := d) hI hi him ho hob
      rw [ho] at h3
      obtain ⟨od, oop, oty, opos, oaft, ogd⟩ := o
      rcases hT2 with ⟨hT2, hT3⟩ | ⟨hT2, _⟩
      case inr => simp only at hT2; subst hT2; cases ogd <;> cases oop <;> simp at h3
      simp only at hT2
      subst hT2
      cases ogd with
      | some g => cases oop <;> simp at h3
      | none =>
        cases oop with
        | move y =>
          have hop : OP P N ⟨some d, .move y, oty, opos, oaft, none⟩ fr' w1 (fun v w' => ∃ M2, S (pl.t i) M' w1 M2 w' ∧ T M2 w' v) := by
            rcases hphi with ⟨_, h⟩ | ⟨j, want, dj, b, hg, _⟩
            · exact h
            · cases hg
          have hrun : ∀ w, (execOp a.eval ⟨some d, .move y, oty, opos, oaft, none⟩).run P w = .ok (.value (a.eval y)) w := fun w => rfl
          have hT : ∃ M2, S (pl.t i) M' w1 M2 w1 ∧ T M2 w1 (a.eval y) := by
            rcases hop.at (ops := ops) (fun cs b => hnosel i _ cs b ho) hI.tmps hI.defers ho1 ho2 with ⟨v, w', e, p⟩ | ⟨w', e, p⟩ | ⟨g, args, w', e, p⟩
            · rw [hrun] at e
              cases e
              exact p
            · rw [hrun] at e; cases e
            · rw [hrun] at e; cases e
          obtain ⟨M2, hb, hTv⟩ := hT
          have hcount := falseIn_set hil hun
          obtain ⟨n', rfl⟩ : ∃ n', n = n' + 1 := ⟨n - 1, by omega⟩
          refine wpAny_first (i := i) (v := a.eval y) ho hnosel (fun c a w h => by cases h.1) n' listed a w1 (Region.free_spec ho h2) hi (.inl ⟨by simp [Region.wanted], hrun⟩) ?_
          refine ih n' _ _ M2 h4 (by omega) (upd hI hi him ho hT1 (.inl ⟨rfl, hT3⟩) hb hTv) (fun j hj => ?_)
          rcases hF j hj with h | h
          · rcases List.mem_cons.1 h with rfl | h
            · exact .inr (getD_set_self hil)
            · exact .inl h
          · exact .inr (getD_set_true h)
        | _ => simp at h3
  refine pull F ops.size _ a M hfl (by simp [falseIn]) ⟨by simp, ha.size, ha.defers, hS.mono (by simp) (hS.refl M w1), ?_, ?_, ?_, ?_⟩ (fun j hj => .inl hj)
  · intro i o ho hl
    have hi : i < ops.size := (Array.getElem?_eq_some_iff.1 ho).1
    simp [hi] at hl
  · intro i _
    by_cases hi : i < ops.size <;> simp [hi]
  · intro i d T hi hl _
    by_cases hi' : i < ops.size <;> simp [hi'] at hl
  · intro t v hv _
    exact ha.slot t v hv

/-! ### The same, for use -/

def AllT : List (Nat × Ty) → Mut → World → (Nat → Value) → Prop
  | [], _, _, _ => True
  | (d, T) :: r, M, w, val => T M w (val d) ∧ AllT r M w val

theorem AllT.mem {M : Mut} {w : World} {val : Nat → Value} : ∀ {G : List (Nat × Ty)}, (∀ p ∈ G, p.2 M w (val p.1)) → AllT G M w val
  | [], _ => trivial
  | (d, T) :: _, h => ⟨h (d, T) (by simp), AllT.mem fun p hp => h p (by simp [hp])⟩

theorem TyAll.of_val {M : Mut} {w : World} {φ : Fr → Prop} : ∀ {G : List (Nat × Ty)} {acc : Fr}, (∀ val : Nat → Value, (∀ p ∈ G, p.2 M w (val p.1)) → φ (fold val G acc)) → (G.map (·.1)).Nodup → TyAll G M w φ acc
  | [], acc, h, _ => h (fun _ => undef) (by simp)
  | (d, T) :: r, acc, h, hn => fun v hv => by
    simp only [List.map_cons, List.nodup_cons] at hn
    refine TyAll.of_val (G := r) (fun val hval => ?_) hn.2
    have := h (fun t => if t = d then v else val t) (fun p hp => by
      rcases List.mem_cons.1 hp with rfl | hp
      · simpa using hv
      · have hne : p.1 ≠ d := fun e => hn.1 (List.mem_map.2 ⟨p, hp, e⟩)
        simpa [hne] using hval p hp)
    simp only [fold, if_true] at this
    have e : ∀ (l : List (Nat × Ty)) (acc : Fr), d ∉ l.map (·.1) → fold (fun t => if t = d then v else val t) l acc = fold val l acc := by
      intro l
      induction l with
      | nil => intro _ _; rfl
      | cons p l ih =>
        intro acc hd
        simp only [List.map_cons, List.mem_cons, not_or] at hd
        simp only [fold, if_neg (Ne.symm hd.1)]
        exact ih _ hd.2
    rwa [e r _ hn.1] at this

section
variable {f : FuncId} {fr : Fr} {M M1 : Mut} {w w1 : World} {k : List Item} {R : Value → World → Prop} {ops : Array Oper} {fin : List (Nat × Ty) → Prop} {l : List Oper} {G : List (Nat × Ty)} {n m : Nat}

/-- Nothing that was there is written. -/
def RelU : Rel := fun _ M w M' w' => UpM M w M' w'
theorem relU_ok : RelOk RelU := ⟨UpM.refl, fun h k => UpM.trans h k, fun _ h => h⟩

/-- What is written is written under some tags. -/
structure StW (B : Nat) (W : List Nat) (M : Mut) (w : World) (M' : Mut) (w' : World) : Prop where
  x : X M w M' w'
  mb : MB M w → MB M' w'
  old : ∀ b, b < B → M' b = M b
  bel : Below B w w'
  keep : ∀ b p, M b = some p → p.2 ∉ W → b < w.heap.size → M' b = some p ∧ w'.heap[b]? = w.heap[b]?

theorem StW.refl (B : Nat) (M : Mut) (w : World) : StW B [] M w M w := ⟨X.refl _ _, fun h => h, fun _ _ => rfl, Below.refl _ _, fun _ _ h _ _ => ⟨h, rfl⟩⟩
theorem StW.trans {B : Nat} {W : List Nat} {M M' M'' : Mut} {w w' w'' : World} (h : StW B W M w M' w') (k : StW B W M' w' M'' w'') : StW B W M w M'' w'' :=
  ⟨h.x.trans k.x, fun m => k.mb (h.mb m), fun b hb => (k.old b hb).trans (h.old b hb), h.bel.trans k.bel, fun b p hp hT hb => by
    obtain ⟨h1, h2⟩ := h.keep b p hp hT hb
    obtain ⟨k1, k2⟩ := k.keep b p h1 hT (Nat.lt_of_lt_of_le hb h.bel.size)
    exact ⟨k1, k2.trans h2⟩⟩
theorem StW.mono {B : Nat} {W W' : List Nat} {M M' : Mut} {w w' : World} (hW : ∀ t ∈ W, t ∈ W') (h : StW B W M w M' w') : StW B W' M w M' w' :=
  ⟨h.x, h.mb, h.old, h.bel, fun b p hp hT hb => h.keep b p hp (fun hc => hT (hW _ hc)) hb⟩
theorem StW.up {B : Nat} {M M' : Mut} {w w' : World} (hB : B ≤ w.heap.size) (h : UpM M w M' w') : StW B [] M w M' w' :=
  ⟨h.x, h.mb, fun b hb => h.old b (Nat.lt_of_lt_of_le hb hB), h.bel.mono hB, fun b _ hp _ hb => ⟨(h.old b hb).trans hp, h.bel.block b hb⟩⟩
theorem StW.st {B tag : Nat} {M M' : Mut} {w w' : World} (h : St B (some tag) M w M' w') : StW B [tag] M w M' w' :=
  ⟨h.x, h.mb, h.old, h.bel, fun b p hp hT hb => h.keep b p hp (fun hc => hT (by cases hc; simp)) hb⟩
theorem Box.stw {M M' : Mut} {w w' : World} {b tag B : Nat} {W : List Nat} {cs : List Value} {e : TypeId} (h : Box M w b tag cs e) (s : StW B W M w M' w') (ht : tag ∉ W) : Box M' w' b tag cs e :=
  ⟨(s.keep b _ h.mark ht h.lt).2.trans h.heap, (s.keep b _ h.mark ht h.lt).1⟩
theorem Grow.stw {B : Nat} {M M' : Mut} {w w' : World} {v : Value} {n sz tag : Nat} {e : TypeId} {W : List Nat} (h : Grow B M w v n sz tag e) (s : StW B W M w M' w') (ht : tag ∉ W) : Grow B M' w' v n sz tag e := by
  rcases h.ex with h | ⟨g, off, cap, cur, h1, h2, h3, h4, h5, h6, h7⟩
  · exact ⟨.inl h⟩
  · have hl := (Array.getElem?_eq_some_iff.1 h3).1
    obtain ⟨k1, k2⟩ := s.keep g _ h7 ht hl
    exact ⟨.inr ⟨g, off, cap, cur, h1, h2, k2.trans h3, h4, h5, h6, k1⟩⟩
theorem Rn.stw {M0 M M' : Mut} {w0 w w' : World} {W : List Nat} (h : Rn M0 w0 M w) (s : StW w0.heap.size W M w M' w') : Rn M0 w0 M' w' :=
  ⟨h.bel.trans s.bel, fun b hb => (s.old b hb).trans (h.old b hb), h.mb0, s.mb h.mb⟩

def RelW (B : Nat) : Rel := fun W M w M' w' => StW B W M w M' w'
theorem relW_ok (B : Nat) : RelOk (RelW B) := ⟨StW.refl B, fun h k => StW.trans h k, fun hW h => StW.mono hW h⟩

/-- The kinds so far, the last one first. -/
structure DR (S : Rel) (pl : Plan) (P : Program) (N : Nat) (ops : Array Oper) (fr : Fr) (M0 : Mut) (w0 : World) (fin : List (Nat × Ty) → Prop) (l : List Oper) (G : List (Nat × Ty)) : Prop where
  out : DW P N S pl ops fr M0 w0 fin l G.reverse

theorem region_dg {id : Nat} {S : Rel} (hS : RelOk S) (pl : Plan) (m n : Nat) (F : List Nat) (hm : P.follows .mixedOrders = true) (hn : l.length = m + n) (hok : drawOk N l.toArray m F pl = true)
    (h : ∀ w1, UpM M w M w1 → DR S pl P N l.toArray fr M w1 (fun G => ∀ M' w', S (ran pl m (Array.replicate m true)) M w1 M' w' → TyAll G M' w' (fun fr' => RT P f N l.toArray k R n (Array.replicate m true ++ Array.replicate n false) fr' w') fr) (l.take m) []) :
    Run P f N (.code (.region id l.toArray true) :: k) fr w R := by
  have e : l.toArray.size - m = n := by simp [hn]
  exact region_draw hS pl m F hm hok (fun w1 hb => by rw [e]; simpa using (h w1 (UpM.of_below hb)).out)

/-- A region that writes nothing that was there, in its first part. -/
theorem region_dr {id : Nat} (m n : Nat) (F : List Nat) (hm : P.follows .mixedOrders = true) (hn : l.length = m + n) (hok : drawOk N l.toArray m F {} = true)
    (h : ∀ w1, UpM M w M w1 → DR RelU {} P N l.toArray fr M w1 (fun G => ∀ M' w', UpM M w1 M' w' → TyAll G M' w' (fun fr' => RT P f N l.toArray k R n (Array.replicate m true ++ Array.replicate n false) fr' w') fr) (l.take m) []) :
    Run P f N (.code (.region id l.toArray true) :: k) fr w R := region_dg relU_ok {} m n F hm hn hok h

/-- A value that is known. -/
def isv (c : Value) : Ty := fun _ _ v => v = c
theorem mono_isv (c : Value) : MonoT (isv c) := fun _ _ _ _ _ _ h => h
/-- An address of an element. -/
def isPtr {α : Type} (E : Enc α) (x : α) : Ty := fun M w v => ∃ ad, v = .pointer (some ad) ∧ Elem E M w ad x
theorem mono_isPtr {α : Type} (E : Enc α) (x : α) : MonoT (isPtr E x) := fun _ _ _ _ _ hs ⟨ad, h1, h2⟩ => ⟨ad, h1, h2.mono hs.x⟩
/-- A slice. -/
def isSl {α : Type} (E : Enc α) (l : List α) : Ty := fun M w v => SlOf E M w v l
theorem mono_isSl {α : Type} (E : Enc α) (l : List α) : MonoT (isSl E l) := fun _ _ _ _ _ hs h => h.mono hs.x
/-- A value of an encoding. -/
def isV {α : Type} (E : Enc α) (x : α) : Ty := fun M w v => E.V M w v x
theorem mono_isV {α : Type} (E : Enc α) (x : α) : MonoT (isV E x) := fun _ _ _ _ _ hs h => h.mono hs.x
/-- A new variable. -/
def isBox (B tag : Nat) (z : List Value) (e : TypeId) : Ty := fun M w v => ∃ b, v = .pointer (some ⟨b, 0, none⟩) ∧ B ≤ b ∧ Box M w b tag z e
theorem mono_isBox (B tag : Nat) (z : List Value) (e : TypeId) : MonoT (isBox B tag z e) := fun _ _ _ _ _ hs ⟨b, h1, h2, h3⟩ => ⟨b, h1, h2, h3.up hs⟩

theorem dr_cons {d : Nat} {op : Op} {ty : TypeId} {pos : String} {aft : Array Edge} {gd : Option (Nat × Bool)} (T : Ty) (hd : d < N) (hT : MonoT T) (hob : Ob P N RelU [] [] ops fr M1 w1 ⟨some d, op, ty, pos, aft, gd⟩ G.reverse T)
    (h : DR RelU {} P N ops fr M1 w1 fin (l.take n) ((d, T) :: G)) : DR RelU {} P N ops fr M1 w1 fin ((⟨some d, op, ty, pos, aft, gd⟩ :: l).take (n + 1)) G := by
  refine ⟨?_⟩
  have h := h.out
  rw [List.take_succ_cons]
  rw [List.reverse_cons] at h
  exact ⟨d, T, .inl ⟨rfl, hd⟩, hT, hob, h⟩
/-- An operation without a slot. -/
theorem dr_cons0 {op : Op} {ty : TypeId} {pos : String} {aft : Array Edge} {gd : Option (Nat × Bool)} (hob : Ob P N RelU [] [] ops fr M1 w1 ⟨none, op, ty, pos, aft, gd⟩ G.reverse (fun _ _ _ => True))
    (h : DR RelU {} P N ops fr M1 w1 fin (l.take n) ((N + G.length, fun _ _ _ => True) :: G)) : DR RelU {} P N ops fr M1 w1 fin ((⟨none, op, ty, pos, aft, gd⟩ :: l).take (n + 1)) G := by
  refine ⟨?_⟩
  have h := h.out
  rw [List.take_succ_cons]
  rw [List.reverse_cons] at h
  exact ⟨N + G.length, fun _ _ _ => True, .inr ⟨rfl, by simp, fun _ _ _ _ h => h⟩, fun _ _ _ _ _ _ h => h, hob, h⟩
/-- The same in a region whose first part writes. -/
theorem dg_cons {S : Rel} {pl : Plan} {d : Nat} {op : Op} {ty : TypeId} {pos : String} {aft : Array Edge} {gd : Option (Nat × Bool)} (T : Ty) (hd : d < N) (hT : Stab S (pl.o G.length) T)
    (hob : Ob P N S (pl.b G.length) (pl.t G.length) ops fr M1 w1 ⟨some d, op, ty, pos, aft, gd⟩ G.reverse T)
    (h : DR S pl P N ops fr M1 w1 fin (l.take n) ((d, T) :: G)) : DR S pl P N ops fr M1 w1 fin ((⟨some d, op, ty, pos, aft, gd⟩ :: l).take (n + 1)) G := by
  refine ⟨?_⟩
  have h := h.out
  rw [List.take_succ_cons]
  rw [List.reverse_cons] at h
  exact ⟨d, T, .inl ⟨rfl, hd⟩, by simpa using hT, by simpa using hob, h⟩
theorem dg_cons0 {S : Rel} {pl : Plan} {op : Op} {ty : TypeId} {pos : String} {aft : Array Edge} {gd : Option (Nat × Bool)} (T : Mut → World → Prop) (hT : Stab S (pl.o G.length) (fun M w _ => T M w))
    (hob : Ob P N S (pl.b G.length) (pl.t G.length) ops fr M1 w1 ⟨none, op, ty, pos, aft, gd⟩ G.reverse (fun M w _ => T M w))
    (h : DR S pl P N ops fr M1 w1 fin (l.take n) ((N + G.length, fun M w _ => T M w) :: G)) : DR S pl P N ops fr M1 w1 fin ((⟨none, op, ty, pos, aft, gd⟩ :: l).take (n + 1)) G := by
  refine ⟨?_⟩
  have h := h.out
  rw [List.take_succ_cons]
  rw [List.reverse_cons] at h
  exact ⟨N + G.length, fun M w _ => T M w, .inr ⟨rfl, by simp, fun _ _ _ _ h => h⟩, by simpa using hT, by simpa using hob, h⟩

def ndB : List (Nat × Ty) → Bool
  | [] => true
  | (d, _) :: r => !(r.any fun p => Nat.beq d p.1) && ndB r

theorem ndB_spec : ∀ {G : List (Nat × Ty)}, ndB G = true → (G.map (·.1)).Nodup
  | [], _ => by simp
  | (d, T) :: r, h => by
    simp only [ndB, Bool.and_eq_true, Bool.not_eq_true', List.any_eq_false] at h
    simp only [List.map_cons, List.nodup_cons]
    refine ⟨fun hm => ?_, ndB_spec h.2⟩
    obtain ⟨p, hp, he⟩ := List.mem_map.1 hm
    exact h.1 p hp (nbeq.2 he.symm)

theorem dr_nil {rest : Nat} {listed : Array Bool} (hn' : ndB G = true)
    (h : ∀ M' w' val, UpM M1 w1 M' w' → AllT G M' w' val → RT P f N ops k R rest listed (fold val G.reverse fr) w') :
    DR RelU {} P N ops fr M1 w1 (fun G => ∀ M' w', UpM M1 w1 M' w' → TyAll G M' w' (fun fr' => RT P f N ops k R rest listed fr' w') fr) (l.take 0) G := by
  have hn := ndB_spec hn'
  refine ⟨?_⟩
  intro M' w' hb
  refine TyAll.of_val (fun val hval => h M' w' val hb (AllT.mem fun p hp => hval p (by simpa using hp))) ?_
  rw [List.map_reverse]
  exact List.pairwise_reverse.2 (hn.imp Ne.symm)
theorem dg_nil {S : Rel} {pl : Plan} {W : List Nat} {rest : Nat} {listed : Array Bool} (hn' : ndB G = true)
    (h : ∀ M' w' val, S W M1 w1 M' w' → AllT G M' w' val → RT P f N ops k R rest listed (fold val G.reverse fr) w') :
    DR S pl P N ops fr M1 w1 (fun G => ∀ M' w', S W M1 w1 M' w' → TyAll G M' w' (fun fr' => RT P f N ops k R rest listed fr' w') fr) (l.take 0) G := by
  have hn := ndB_spec hn'
  refine ⟨?_⟩
  intro M' w' hb
  refine TyAll.of_val (fun val hval => h M' w' val hb (AllT.mem fun p hp => hval p (by simpa using hp))) ?_
  rw [List.map_reverse]
  exact List.pairwise_reverse.2 (hn.imp Ne.symm)

section
variable {o : Oper} {T : Ty}
theorem ob0 (hS : seenBy ops o G = []) (h : ∀ M w, UpM M1 w1 M w → OPG P N ops o fr w (fun v w' => ∃ M', UpM M w M' w' ∧ T M' w' v)) : Ob P N RelU [] [] ops fr M1 w1 o G T := fun M w hb => by
  rw [hS]; exact h M w hb
theorem ob1 {d1 : Nat} {T1 : Ty} (hS : seenBy ops o G = [(d1, T1)]) (h : ∀ M w, UpM M1 w1 M w → ∀ v1, T1 M w v1 → OPG P N ops o ((d1, v1) :: fr) w (fun v w' => ∃ M', UpM M w M' w' ∧ T M' w' v)) : Ob P N RelU [] [] ops fr M1 w1 o G T := fun M w hb => by
  rw [hS]; exact h M w hb
theorem ob2 {d1 d2 : Nat} {T1 T2 : Ty} (hS : seenBy ops o G = [(d1, T1), (d2, T2)])
    (h : ∀ M w, UpM M1 w1 M w → ∀ v1, T1 M w v1 → ∀ v2, T2 M w v2 → OPG P N ops o ((d2, v2) :: (d1, v1) :: fr) w (fun v w' => ∃ M', UpM M w M' w' ∧ T M' w' v)) : Ob P N RelU [] [] ops fr M1 w1 o G T := fun M w hb => by
  rw [hS]; exact h M w hb
theorem ob3 {d1 d2 d3 : Nat} {T1 T2 T3 : Ty} (hS : seenBy ops o G = [(d1, T1), (d2, T2), (d3, T3)])
    (h : ∀ M w, UpM M1 w1 M w → ∀ v1, T1 M w v1 → ∀ v2, T2 M w v2 → ∀ v3, T3 M w v3 → OPG P N ops o ((d3, v3) :: (d2, v2) :: (d1, v1) :: fr) w (fun v w' => ∃ M', UpM M w M' w' ∧ T M' w' v)) : Ob P N RelU [] [] ops fr M1 w1 o G T := fun M w hb => by
  rw [hS]; exact h M w hb
theorem ob4 {d1 d2 d3 d4 : Nat} {T1 T2 T3 T4 : Ty} (hS : seenBy ops o G = [(d1, T1), (d2, T2), (d3, T3), (d4, T4)])
    (h : ∀ M w, UpM M1 w1 M w → ∀ v1, T1 M w v1 → ∀ v2, T2 M w v2 → ∀ v3, T3 M w v3 → ∀ v4, T4 M w v4 → OPG P N ops o ((d4, v4) :: (d3, v3) :: (d2, v2) :: (d1, v1) :: fr) w (fun v w' => ∃ M', UpM M w M' w' ∧ T M' w' v)) : Ob P N RelU [] [] ops fr M1 w1 o G T := fun M w hb => by
  rw [hS]; exact h M w hb
section
variable {S : Rel} {Wb Wt : List Nat}
theorem og0 (hS : seenBy ops o G = []) (h : ∀ M w, S Wb M1 w1 M w → OPG P N ops o fr w (fun v w' => ∃ M', S Wt M w M' w' ∧ T M' w' v)) : Ob P N S Wb Wt ops fr M1 w1 o G T := fun M w hb => by
  rw [hS]; exact h M w hb
theorem og1 {d1 : Nat} {T1 : Ty} (hS : seenBy ops o G = [(d1, T1)]) (h : ∀ M w, S Wb M1 w1 M w → ∀ v1, T1 M w v1 → OPG P N ops o ((d1, v1) :: fr) w (fun v w' => ∃ M', S Wt M w M' w' ∧ T M' w' v)) : Ob P N S Wb Wt ops fr M1 w1 o G T := fun M w hb => by
  rw [hS]; exact h M w hb
theorem og2 {d1 d2 : Nat} {T1 T2 : Ty} (hS : seenBy ops o G = [(d1, T1), (d2, T2)])
    (h : ∀ M w, S Wb M1 w1 M w → ∀ v1, T1 M w v1 → ∀ v2, T2 M w v2 → OPG P N ops o ((d2, v2) :: (d1, v1) :: fr) w (fun v w' => ∃ M', S Wt M w M' w' ∧ T M' w' v)) : Ob P N S Wb Wt ops fr M1 w1 o G T := fun M w hb => by
  rw [hS]; exact h M w hb
theorem og3 {d1 d2 d3 : Nat} {T1 T2 T3 : Ty} (hS : seenBy ops o G = [(d1, T1), (d2, T2), (d3, T3)])
    (h : ∀ M w, S Wb M1 w1 M w → ∀ v1, T1 M w v1 → ∀ v2, T2 M w v2 → ∀ v3, T3 M w v3 → OPG P N ops o ((d3, v3) :: (d2, v2) :: (d1, v1) :: fr) w (fun v w' => ∃ M', S Wt M w M' w' ∧ T M' w' v)) : Ob P N S Wb Wt ops fr M1 w1 o G T := fun M w hb => by
  rw [hS]; exact h M w hb
theorem og4 {d1 d2 d3 d4 : Nat} {T1 T2 T3 T4 : Ty} (hS : seenBy ops o G = [(d1, T1), (d2, T2), (d3, T3), (d4, T4)])
    (h : ∀ M w, S Wb M1 w1 M w → ∀ v1, T1 M w v1 → ∀ v2, T2 M w v2 → ∀ v3, T3 M w v3 → ∀ v4, T4 M w v4 → OPG P N ops o ((d4, v4) :: (d3, v3) :: (d2, v2) :: (d1, v1) :: fr) w (fun v w' => ∃ M', S Wt M w M' w' ∧ T M' w' v)) : Ob P N S Wb Wt ops fr M1 w1 o G T := fun M w hb => by
  rw [hS]; exact h M w hb
end
end

theorem opg {d : Option Nat} {op : Op} {ty : TypeId} {pos : String} {aft : Array Edge} {Ψ : Value → World → Prop} (h : OP P N ⟨d, op, ty, pos, aft, none⟩ fr w Ψ) : OPG P N ops ⟨d, op, ty, pos, aft, none⟩ fr w Ψ := .inl ⟨rfl, h⟩
theorem opg_yes {d : Option Nat} {op : Op} {ty : TypeId} {pos : String} {aft : Array Edge} {Ψ : Value → World → Prop} {j dj : Nat} {want : Bool} (hj : (ops[j]?).bind (·.dst) = some dj) (hl : look fr dj = some (.bool want))
    (h : OP P N ⟨d, op, ty, pos, aft, some (j, want)⟩ fr w Ψ) : OPG P N ops ⟨d, op, ty, pos, aft, some (j, want)⟩ fr w Ψ := .inr ⟨j, want, dj, want, rfl, hj, hl, .inl ⟨rfl, h⟩⟩
theorem opg_no {d : Option Nat} {op : Op} {ty : TypeId} {pos : String} {aft : Array Edge} {Ψ : Value → World → Prop} {j dj : Nat} {want b : Bool} (hj : (ops[j]?).bind (·.dst) = some dj) (hl : look fr dj = some (.bool b)) (hb : b ≠ want)
    (h : Ψ undef w) : OPG P N ops ⟨d, op, ty, pos, aft, some (j, want)⟩ fr w Ψ := .inr ⟨j, want, dj, b, rfl, hj, hl, .inr ⟨hb, h⟩⟩

/-- Nothing is left. -/
theorem rt_nil {listed : Array Bool} (hr : Region.ready .any ops listed = []) (h : Run P f N k fr w R) : RT P f N ops k R n listed fr w := ⟨fun a ha => by
  cases n with
  | zero => exact ⟨hr, rfl, h.out a ha⟩
  | succ n => exact ⟨fun _ => ⟨rfl, h.out a ha⟩, fun i hi => by rw [hr] at hi; cases hi⟩⟩

theorem wpOp_plain {i : Nat} {o : Oper} {Q : Exit → Act → World → Prop} {K : Act → World → Prop} {a : Act} (ho : ops[i]? = some o) (hg : o.guard = none) (ha : Rep N fr a) (h : OP P N o fr w (fun v w' => K (a.put o.dst v) w')) : wpOp P ops Q i K a w := by
  unfold wpOp
  simp only [ho]
  rw [if_pos (by simp [Region.wanted, hg])]
  exact .inl (OP.wp h ha)

/-- One operation can be next. -/
theorem rt_one {listed : Array Bool} {i : Nat} {d : Nat} {op : Op} {ty : TypeId} {pos : String} {aft : Array Edge} (hr : Region.ready .any ops listed = [i]) (ho : ops[i]? = some ⟨some d, op, ty, pos, aft, none⟩) (hd : d < N)
    (h : OP P N ⟨some d, op, ty, pos, aft, none⟩ fr w (fun v w' => RT P f N ops k R n (listed.setIfInBounds i true) ((d, v) :: fr) w')) : RT P f N ops k R (n + 1) listed fr w := by
  refine ⟨fun a ha => ?_⟩
  refine ⟨(fun h0 => by rw [hr] at h0; cases h0), fun j hj => ?_⟩
  rw [hr] at hj
  simp at hj
  subst hj
  exact wpOp_plain ho rfl ha (h.mono fun v w' hk => hk.out _ (ha.put v hd))
theorem rt_one0 {listed : Array Bool} {i : Nat} {op : Op} {ty : TypeId} {pos : String} {aft : Array Edge} (hr : Region.ready .any ops listed = [i]) (ho : ops[i]? = some ⟨none, op, ty, pos, aft, none⟩)
    (h : OP P N ⟨none, op, ty, pos, aft, none⟩ fr w (fun _ w' => RT P f N ops k R n (listed.setIfInBounds i true) fr w')) : RT P f N ops k R (n + 1) listed fr w := by
  refine ⟨fun a ha => ?_⟩
  refine ⟨(fun h0 => by rw [hr] at h0; cases h0), fun j hj => ?_⟩
  rw [hr] at hj
  simp at hj
  subst hj
  exact wpOp_plain ho rfl ha (h.mono fun v w' hk => hk.out _ ha)
/-- Two stores can be next. -/
theorem rt_two0 {listed : Array Bool} {i i' : Nat} {op op' : Op} {ty ty' : TypeId} {pos pos' : String} {aft aft' : Array Edge} (hr : Region.ready .any ops listed = [i, i']) (ho : ops[i]? = some ⟨none, op, ty, pos, aft, none⟩)
    (ho' : ops[i']? = some ⟨none, op', ty', pos', aft', none⟩)
    (h : OP P N ⟨none, op, ty, pos, aft, none⟩ fr w (fun _ w' => RT P f N ops k R n (listed.setIfInBounds i true) fr w'))
    (h' : OP P N ⟨none, op', ty', pos', aft', none⟩ fr w (fun _ w' => RT P f N ops k R n (listed.setIfInBounds i' true) fr w')) : RT P f N ops k R (n + 1) listed fr w := by
  refine ⟨fun a ha => ?_⟩
  refine ⟨(fun h0 => by rw [hr] at h0; cases h0), fun j hj => ?_⟩
  rw [hr] at hj
  simp at hj
  rcases hj with rfl | rfl
  · exact wpOp_plain ho rfl ha (h.mono fun v w' hk => hk.out _ ha)
  · exact wpOp_plain ho' rfl ha (h'.mono fun v w' hk => hk.out _ ha)

theorem RT.sub {listed : Array Bool} {fr' : Fr} (h : RT P f N ops k R n listed fr' w) (hs : Sub fr' fr) : RT P f N ops k R n listed fr w := ⟨fun a ha => h.out a (ha.sub hs)⟩

end
end
end Go.Proofs.Ytocoinkhbjlbhaa
