/-
  slices.Repeat of one number: a row of its own. Rows that a callee hands over.
-/
import Derived.Test.YtocoinkhbjlbhaaT26f
namespace Go.Proofs.Ytocoinkhbjlbhaa
open Go Go.RowKit

/-! ### Cells of numbers -/

theorem cssI {M : Mut} {w : World} : ∀ {l : List Int} {css : List Value}, CSS eI M w css l ↔ css = l.map (.int .i64) ∧ ∀ n ∈ l, I64 n
  | [], css => by simp [CSS]
  | n :: l, css => by
    simp only [CSS]
    constructor
    · rintro ⟨a, b, rfl, ⟨rfl, h, _⟩, h2⟩
      obtain ⟨rfl, h3⟩ := cssI.1 h2
      exact ⟨rfl, fun m hm => by
        rcases List.mem_cons.1 hm with rfl | hm
        · exact h rfl
        · exact h3 m hm⟩
    · rintro ⟨rfl, h⟩
      exact ⟨[.int .i64 n], l.map (.int .i64), rfl, ⟨rfl, fun _ => h n (by simp), fun e => by cases e⟩, cssI.2 ⟨rfl, fun m hm => h m (by simp [hm])⟩⟩

/-- A row of numbers, overwritten from a place on. -/
def over (l : List Int) (off : Nat) (s : List Int) : List Int := l.take off ++ s ++ l.drop (off + s.length)

theorem over_len {l s : List Int} {off : Nat} (h : off + s.length ≤ l.length) : (over l off s).length = l.length := by
  unfold over
  simp only [List.length_append, List.length_take, List.length_drop]
  omega

section
variable {P : Program} {N : Nat} {fr : Fr} {w : World} {Ψ : Value → World → Prop} {d : Option Tmp} {ty : TypeId} {pos : String} {aft : Array Edge} {g : Option (Nat × Bool)}

/-- copy of numbers into a part of a row. -/
theorem op_copyI {M : Mut} {w0 : World} {b tag off m cap : Nat} {l s : List Int} {t e : TypeId} {x y : Operand} {a2 : Option Addr} {len cap2 k : Nat} (ht : P.underlying t = some (.slice e)) (hE : TE P e eI)
    (hx : opv fr x = some (.slice (some ⟨b, off, none⟩) m cap)) (hy : opv fr y = some (.slice a2 len cap2)) (hk : min m len = k) (hs : (Builtin.firstCells 1 k (.slice a2 len cap2)).run P w = .ok (s.map (Value.int .i64)).toArray w) (_hsk : s.length = k)
    (hI : ∀ n ∈ s, I64 n) (hB : w0.heap.size ≤ b) (hb : ∃ css, CSS eI M w css l ∧ Box M w b tag css e) (hf : off + s.length ≤ l.length)
    (h : ∀ w', (∃ css, CSS eI M w' css (over l off s) ∧ Box M w' b tag css e) → St w0.heap.size (some tag) M w M w' → Ψ (.int .i64 k) w') :
    OP P N ⟨d, .call ⟨.builtin .copy, #[x, y], #[t, t]⟩, ty, pos, aft, g⟩ fr w Ψ := by
  obtain ⟨z, hz, hT⟩ := hE
  obtain ⟨css, c1, hb⟩ := hb
  obtain ⟨rfl, hI2⟩ := cssI.1 c1
  have hst := run_storeCells_at P b off e (s.map (Value.int .i64)) 0 (l.map (Value.int .i64)).toArray w hb.heap (by simpa using hf) (fun v hv => by
    obtain ⟨n, _, rfl⟩ := List.mem_map.1 hv
    rfl)
  have hM : M = M.set b (some (0, tag)) := by
    funext k
    unfold Mut.set
    split
    · rename_i hk; subst hk; exact hb.mark
    · rfl
  have hcur : (List.take (off + 0) (l.map (Value.int .i64)).toArray.toList ++ s.map (Value.int .i64) ++ List.drop (off + 0 + (s.map (Value.int .i64)).length) (l.map (Value.int .i64)).toArray.toList) = (over l off s).map (Value.int .i64) := by
    unfold over
    simp
  rw [hcur] at hst
  have hS : St w0.heap.size (some tag) M w M (w.setRow b ((over l off s).map (Value.int .i64)).toArray) := by
    have := St.write (M := M) (w := w) (w' := w.setRow b ((over l off s).map (Value.int .i64)).toArray) (k := 0) (k' := 0) hB hb.lt hb.mark rfl (Nat.le_refl _) rfl rfl rfl (by simp [World.setRow]) (fun k hk => setRow_other w b k _ hk) (fun off ho => by omega)
    rwa [← hM] at this
  refine OP.val (v := .int .i64 k) (w' := w.setRow b ((over l off s).map (Value.int .i64)).toArray) (fun a ha => ?_) (h _ ⟨_, cssI.2 ⟨rfl, fun n hn => ?_⟩, ⟨setRow_heap w b _ _ e _ hb.heap, hb.mark⟩⟩ hS)
  · simp only [execOp, resolve, invoke, builtin, Sem.run_bind, Sem.run_pure, Result.andThen_ok, List.map_toArray, List.map_cons, List.map_nil, ha.eval hx, ha.eval hy]
    have hsz : (sizeOf e).run P w = .ok 1 w := hT.run_sizeOf (w := w)
    have hk2 : len.min m = k := by rw [show len.min m = min len m from rfl, Nat.min_comm]; exact hk
    simp [Builtin.copy_, run_underlying ht, Builtin.lenOf, hk2, hsz, hs, hst, goInt]
  · unfold over at hn
    rcases List.mem_append.1 hn with hn | hn
    · rcases List.mem_append.1 hn with hn | hn
      · exact hI2 n (List.mem_of_mem_take hn)
      · exact hI n hn
    · exact hI2 n (List.mem_of_mem_drop hn)
end

section
variable {P : Program} {N : Nat} {G : TF} {d : Option Tmp} {ty : TypeId} {pos : String} {aft : Array Edge} {g : Option (Nat × Bool)}
/-- A part of a row that is written. -/
theorem t_sliceRL {α : Type} {E : Enc α} {x lo : Operand} {b n : Nat} {t e : TypeId} {k : IntKind} {m : Int} (hx : topP G x = some (pSr b n) := by rfl) (h1 : topP G lo = some (pK k m) := by rfl)
    (ht : USl P t e := by infer_instance) (hE : TEc P e E := by infer_instance) (hb : 0 ≤ m ∧ m < n := by omega) :
    TOp P N ⟨d, .slice t x (some lo) none none, ty, pos, aft, g⟩ G [] (.pu (pv (.slice (some ⟨b, m.toNat * E.sz, none⟩) (n - m.toNat) (n - m.toNat)))) := .pure [x, lo] (by simp [Op.operands]) fun {B M w fr} hf => by
  obtain ⟨_, k0, rfl⟩ := hf.op hx (by simp)
  obtain ⟨_, k2, rfl, _⟩ := hf.op h1 (by simp)
  obtain ⟨z, hz, hT⟩ := hE.out
  refine OP.val (w' := w) (fun a' ha => ?_) ⟨rfl, rfl⟩
  have b2 : (Instr.sliceBound (.int k m) n .sliceB).run P w = .ok m.toNat w := run_bound (by omega)
  have hne : ¬ n = m.toNat := by omega
  simp only [execOp, ha.eval k0, ha.eval k2, Option.map_some, Option.map_none]
  simp [Instr.sliceAt, Instr.slice, run_underlying ht.out, Instr.sliceBounds, b2, hT.run_sizeOf (w := w), hne, Addr.add_lit]
theorem t_sliceRH {x hi : Operand} {b n : Nat} {t e : TypeId} {k : IntKind} {m : Int} (hx : topP G x = some (pSr b n) := by rfl) (h1 : topP G hi = some (pK k m) := by rfl)
    (ht : USl P t e := by infer_instance) (hE : TEc P e eI := by infer_instance) (hb : 0 ≤ m ∧ m ≤ n := by omega) :
    TOp P N ⟨d, .slice t x none (some hi) none, ty, pos, aft, g⟩ G [] (.pu (pv (.slice (some ⟨b, 0, none⟩) m.toNat n))) := .pure [x, hi] (by simp [Op.operands]) fun {B M w fr} hf => by
  obtain ⟨_, k0, rfl⟩ := hf.op hx (by simp)
  obtain ⟨_, k2, rfl, _⟩ := hf.op h1 (by simp)
  obtain ⟨z, hz, hT⟩ := hE.out
  refine OP.val (w' := w) (fun a' ha => ?_) ⟨rfl, rfl⟩
  have b2 : (Instr.sliceBound (.int k m) n .sliceAcap).run P w = .ok m.toNat w := run_bound (by omega)
  simp only [execOp, ha.eval k0, ha.eval k2, Option.map_some, Option.map_none]
  simp [Instr.sliceAt, Instr.slice, run_underlying ht.out, Instr.sliceBounds, b2, hT.run_sizeOf (w := w), Addr.add_lit]
end

section
variable {P : Program} {f : FuncId} {N : Nat} {M0 : Mut} {w0 : World} {R : Value → World → Prop} {G : TF} {k : List Item}
variable {ops : Array Oper} {d : Nat} {ty : TypeId} {pos : String} {aft : Array Edge} {rest : List Oper}

/-- copy of a list of numbers to the head of a row. -/
theorem c_copy {x y : Operand} {b n tag : Nat} {l s : List Int} {t e : TypeId} (key : Nat) (hk : RLt P f N M0 w0 ops k R rest ((d, .pu (pI s.length)) :: (key, .rw b tag eI (over l 0 s) e) :: dropW [tag] G))
    (hx : topP G x = some (pSr b n) := by rfl) (hy : topP G y = some (pSl eI s) := by rfl) (hg : tlook G key = some (.rw b tag eI l e) := by rfl) (ht : USl P t e := by infer_instance) (hE : TEc P e eI := by infer_instance)
    (hn : s.length ≤ n := by omega) (hl : s.length ≤ l.length := by omega) (hd : d < N := by decide) : RLt P f N M0 w0 ops k R (⟨some d, .call ⟨.builtin .copy, #[x, y], #[t, t]⟩, ty, pos, aft, none⟩ :: rest) G := ⟨fun {M w fr} hr hf => by
  obtain ⟨_, k0, rfl⟩ := hf.op0 hx (fun _ _ => trivial)
  obtain ⟨v, k1, k2⟩ := hf.op0 hy (fun _ _ => trivial)
  obtain ⟨hB, hbx⟩ := hf.out key _ hg (.inr trivial)
  have hsl := k2.le
  obtain ⟨a, cap, f1, f2, f3, f4, f5, f6⟩ := k2.ex
  subst f1
  have hcss : (∀ n ∈ s, I64 n) ∧ (Builtin.firstCells 1 s.length (.slice a s.length cap)).run P w = .ok (s.map (Value.int .i64)).toArray w := by
    cases a with
    | none =>
      have := f4 rfl
      have : s = [] := List.eq_nil_of_length_eq_zero (by omega)
      subst this
      exact ⟨(fun n hn => by cases hn), rfl⟩
    | some ad =>
      obtain ⟨css, c1, c2⟩ := CSS.of_elems (f6 ad rfl)
      obtain ⟨rfl, hI⟩ := cssI.1 c1
      exact ⟨hI, run_firstCells_some (P := P) w 1 s.length ad s.length cap _ c1.len (fun j v h => (c2 j v h).1)⟩
  refine rl_step hd (op_copyI (M := M) (w0 := w0) (b := b) (tag := tag) (off := 0) (l := l) (s := s) (len := s.length) (k := s.length) ht.out hE.out k0 k1 (Nat.min_eq_right hn) hcss.2 rfl hcss.1 hB hbx (by omega) fun w' h1 h2 => ?_)
  have hs := StW.st h2
  exact hk.out (hr.stw hs) (Fit.cons (T := .pu (pI s.length)) (Fit.hide (T := .rw b tag eI (over l 0 s) e) (hf.after hs) ⟨hB, h1⟩) ⟨rfl, rng64 (by omega)⟩)⟩

/-- copy of the head of a row behind it. -/
theorem q_copy {i n' : Nat} {listed : Array Bool} {x y : Operand} {b n tag off : Nat} {l : List Int} {t e : TypeId} (key : Nat) (hr : Region.ready .any ops listed = [i]) (ho : ops[i]? = some ⟨some d, .call ⟨.builtin .copy, #[x, y], #[t, t]⟩, ty, pos, aft, none⟩)
    (hk : RTt P f N M0 w0 ops k R n' (listed.setIfInBounds i true) ((d, .pu (pI (min (n - off) off : Nat))) :: (key, .rw b tag eI (over l off (l.take (min (n - off) off))) e) :: dropW [tag] G))
    (hx : topP G x = some (pv (.slice (some ⟨b, off * eI.sz, none⟩) (n - off) (n - off))) := by rfl) (hy : topP G y = some (pv (.slice (some ⟨b, 0, none⟩) off n)) := by rfl) (hg : tlook G key = some (.rw b tag eI l e) := by rfl) (ht : USl P t e := by infer_instance)
    (hE : TEc P e eI := by infer_instance) (hn : l.length = n) (hof : off ≤ n) (hnn : n ≤ 9223372036854775807) (hd : d < N := by decide) : RTt P f N M0 w0 ops k R (n' + 1) listed G := ⟨fun {M w fr} hrn hf => by
  obtain ⟨_, k0, rfl⟩ := hf.op0 hx (fun _ _ => trivial)
  obtain ⟨_, k1, rfl⟩ := hf.op0 hy (fun _ _ => trivial)
  obtain ⟨hB, hbx⟩ := hf.out key _ hg (.inr trivial)
  have hbx' := hbx
  obtain ⟨css, c1, hb⟩ := hbx'
  obtain ⟨rfl, hI⟩ := cssI.1 c1
  have hlt : (l.take (min (n - off) off)).length = min (n - off) off := by rw [List.length_take]; omega
  have hcs : (Builtin.firstCells 1 (min (n - off) off) (.slice (some ⟨b, 0, none⟩) off n)).run P w = .ok ((l.take (min (n - off) off)).map (Value.int .i64)).toArray w := by
    refine run_firstCells_some (P := P) w 1 _ ⟨b, 0, none⟩ off n _ (by rw [List.length_map, hlt, Nat.mul_one]) (fun j v h => ?_)
    rw [Addr.add_lit, Nat.zero_add, hb.cell, ← h, List.map_take, List.getElem?_take]
    rw [List.map_take, List.getElem?_take] at h
    split at h
    · rename_i hj
      rw [if_pos hj]
    · cases h
  refine rt_one hr ho hd (op_copyI (M := M) (w0 := w0) (b := b) (tag := tag) (off := off) (l := l) (s := l.take (min (n - off) off)) (len := off) (k := min (n - off) off) ht.out hE.out (by rw [show off * eI.sz = off from Nat.mul_one _] at k0; exact k0) k1 rfl hcs hlt
    (fun n hn => hI n (List.mem_of_mem_take hn)) hB hbx (by rw [hlt]; omega) fun w' h1 h2 => ?_)
  have hs := StW.st h2
  exact hk.out (hrn.stw hs) (Fit.cons (T := .pu (pI (min (n - off) off : Nat))) (Fit.hide (T := .rw b tag eI (over l off (l.take (min (n - off) off))) e) (hf.after hs) ⟨hB, h1⟩) ⟨rfl, rng64 (by omega)⟩)⟩
end

/-! ### A row that a function hands over -/

def RetI (B : Nat) (w0 : World) (e : TypeId) (l : List Int) : Value → World → Prop := fun v w => (∃ b, v = .slice (some ⟨b, 0, none⟩) l.length l.length ∧ B ≤ b ∧ w.heap[b]? = some (.cells (l.map (Value.int .i64)).toArray e (0, 0)) ∧ ∀ n ∈ l, I64 n) ∧ Below w0.heap.size w0 w

structure FnI (P : Program) (g : FuncId) (Ps : List Pub) (e : TypeId) (l : List Int) : Prop where
  ent : Ent P g
  run : ∀ M w vs, MB M w → FitL M w Ps vs → CallsV P g vs w (RetI w.heap.size w e l)

theorem fnI_of {P : Program} {f : FuncId} {N : Nat} {fn : Func} {c : Code} {Ps : List Pub} {e : TypeId} {l : List Int} (he : Ent P f) (hf : P.funcs[f]? = some fn) (hb : fn.body = some c) (hN : fn.ntmps = N) (hn : Nat.ble Ps.length N = true)
    (h : ∀ M0 w0, Rt P f N M0 w0 [.code c] (argTF 0 Ps) (RetI w0.heap.size w0 e l)) : FnI P f Ps e l := ⟨he, fun M w vs hm hv => by
  have hlen := hv.len
  exact callsV_of_run hf hb hN (by rw [hlen]; exact Nat.le_of_ble_eq_true hn) ((h M w).out (Rn.refl hm) (fit_args 0 hv))⟩

theorem c_retI {P : Program} {k : List Item} {f : FuncId} {N : Nat} {M0 : Mut} {w0 : World} {G : TF} {fn : Func} {t : Nat} {b tag n : Nat} {l l' : List Int} {e : TypeId} (key : Nat) (hf : P.funcs[f]? = some fn) (hr : fn.results = #[.tmp t]) (hl : l' = l) (hn : n = l.length)
    (hp : topP G (.tmp t) = some (pSr b n) := by rfl) (hg : tlook G key = some (.rw b tag eI l' e) := by rfl) : Rt P f N M0 w0 (.code .ret :: k) G (RetI w0.heap.size w0 e l) := ⟨fun {M w fr} hrn hfit => by
  subst hl hn
  obtain ⟨v, h1, rfl⟩ := hfit.op0 hp (fun _ _ => trivial)
  obtain ⟨hB, css, h2, h3⟩ := hfit.out key _ hg (.inr trivial)
  obtain ⟨rfl, hI⟩ := cssI.1 h2
  exact run_ret1 hf hr h1 ⟨⟨b, rfl, hB, h3.heap, hI⟩, hrn.bel⟩⟩

/-- Such a function is called. -/
theorem t_callI {P : Program} {N : Nat} {G : TF} {d : Option Tmp} {ty : TypeId} {pos : String} {aft : Array Edge} {g : Option (Nat × Bool)} {f : FuncId} {args : List Operand} {argT : Array TypeId} {Ps : List Pub} {e : TypeId} {l : List Int} (tag : Nat) (h : FnI P f Ps e l) (ha : topPs G args = some Ps := by rfl) :
    TOp P N ⟨d, .call ⟨.value (.func f), args.toArray, argT⟩, ty, pos, aft, g⟩ G [] (.ow eI l tag e) := ⟨args, (by simp [Op.operands, Call.operands]; intro x hx; exact .inr hx), fun {M0 w0 M w fr} hr hf => by
  obtain ⟨vs, h1, h2⟩ := hf.ops ha (fun _ h => h)
  refine op_call h.ent h1 (h.run M w vs hr.mb h2) fun v w' ⟨⟨b, e1, e2, e3, e4⟩, hb⟩ => ?_
  have hup : UpM M w (M.set b (some (0, tag))) w' := ⟨hb, fun c hc => by unfold Mut.set; rw [if_neg (by omega)], fun hm c hc => by
    have := (Array.getElem?_eq_some_iff.1 e3).1
    unfold Mut.set
    rw [if_neg (by omega)]
    exact hm c (Nat.le_trans hb.size hc)⟩
  exact ⟨_, StW.up hr.size hup, b, e1, Nat.le_trans hr.size e2, _, cssI.2 ⟨rfl, e4⟩, e3, by simp [Mut.set]⟩⟩

theorem take_rep {x : Int} {l : List Int} {off n : Nat} (hl : l.length = n) (_ho : 1 ≤ off) (hof : off < n) (h : l.take off = List.replicate off x) :
    (over l off (l.take (min (n - off) off))).take (off + min (n - off) off) = List.replicate (off + min (n - off) off) x ∧ (over l off (l.take (min (n - off) off))).length = n := by
  have h1 : l.take (min (n - off) off) = List.replicate (min (n - off) off) x := by
    rw [show min (n - off) off = min (min (n - off) off) off by omega, ← List.take_take, h, List.take_replicate]
  have hlen : (over l off (l.take (min (n - off) off))).length = n := by
    rw [over_len (by rw [List.length_take]; omega), hl]
  refine ⟨?_, hlen⟩
  unfold over
  rw [h1, h, List.take_append_of_le_length (by simp), List.replicate_append_replicate, List.take_of_length_le (by simp)]

set_option maxHeartbeats 1000000 in
theorem repeat_f {x : Int} {k : Int} (h : 1 ≤ k ∧ k ≤ 1000000) : FnI Try.prog 60 [pSl eI [x], pI k] 3 (List.replicate k.toNat x) := by
  refine fnI_of ent60 Try.func60 rfl Try.ntmps60 rfl fun M0 w0 => ?_
  have hkn : k.toNat = k := by omega
  (repeat (first | refine c_seq ?_ | refine c_reg ?_ | refine c_rnil ?_ | refine c_block ?_ | refine c_inBlock ?_ | refine c_exit ?_ | refine c_skip ?_ | refine c_label ?_ | refine c_true ?_ | refine c_false ?_ | refine c_yes ?_ | refine c_no ?_ | refine (c_make 1 100) ?_ | refine c_op (by first | exact t_call (h := (mul_f (k := k) (by omega))) | exact (t_cvU (h := (by first | omega | (simp; done)))) | exact (t_cvI) | exact (t_gtrF) | exact t_moveG | exact t_move | exact t_moveO | exact t_assignG | exact t_assignO | exact t_assign | exact t_pickT | exact t_pickF | exact t_add | exact t_sub | exact t_neg | exact t_not | exact t_min | exact t_max | exact t_lssT | exact t_lssF | exact t_lss | exact t_leqT | exact t_leqF | exact t_leq | exact t_gtrT | exact t_gtrF | exact t_gtr | exact t_geqT | exact t_geqF | exact t_geq | exact t_eqlT | exact t_eqlF | exact t_eql | exact t_neqT | exact t_neqF | exact t_neq | exact t_ext0 | exact t_ext1 | exact t_ext30 | exact t_ext31 | exact t_ext32 | exact t_len | exact t_lenN | exact t_lenR | exact t_idxN | exact t_idx | exact t_load | exact t_fa | exact t_fv | exact t_bl | exact t_sliceG | exact t_sliceLHN | exact t_sliceLN | exact t_sliceHN | exact t_sliceLH | exact t_sliceL | exact t_sliceH | exact t_bs | exact t_quo | exact t_rem | exact t_boxP) ?_ | refine c_opW t_app ?_))
  intro b
  have hll : (over (List.replicate k.toNat (0 : Int)) 0 [x]).length = k.toNat := by rw [over_len (by simp; omega), List.length_replicate]
  have hl1 : (over (List.replicate k.toNat (0 : Int)) 0 [x]).take 1 = List.replicate 1 x := by simp [over]
  (repeat (first | refine c_seq ?_ | refine c_reg ?_ | refine c_rnil ?_ | refine c_block ?_ | refine c_inBlock ?_ | refine c_exit ?_ | refine c_skip ?_ | refine c_label ?_ | refine c_true ?_ | refine c_false ?_ | refine c_yes ?_ | refine c_no ?_ | refine (c_copy 100 (hn := (by simp; omega)) (hl := (by simp; omega))) ?_ | refine c_op (by first | exact t_moveG | exact t_move | exact t_moveO | exact t_assignG | exact t_assignO | exact t_assign | exact t_pickT | exact t_pickF | exact t_add | exact t_sub | exact t_neg | exact t_not | exact t_min | exact t_max | exact t_lssT | exact t_lssF | exact t_lss | exact t_leqT | exact t_leqF | exact t_leq | exact t_gtrT | exact t_gtrF | exact t_gtr | exact t_geqT | exact t_geqF | exact t_geq | exact t_eqlT | exact t_eqlF | exact t_eql | exact t_neqT | exact t_neqF | exact t_neq | exact t_ext0 | exact t_ext1 | exact t_ext30 | exact t_ext31 | exact t_ext32 | exact t_len | exact t_lenN | exact t_lenR | exact t_idxN | exact t_idx | exact t_load | exact t_fa | exact t_fv | exact t_bl | exact t_sliceG | exact t_sliceLHN | exact t_sliceLN | exact t_sliceHN | exact t_sliceLH | exact t_sliceL | exact t_sliceH | exact t_bs | exact t_quo | exact t_rem | exact t_boxP) ?_ | refine c_opW t_app ?_))
  refine c_loop (fun y : List Int × Nat => [(0, .pu (pSl eI [x])), (7, .pu (pSr b k.toNat)), (100, .rw b 1 eI y.1 3), (8, .pu (pI y.2))])
    (fun y => y.1.length = k.toNat ∧ 1 ≤ y.2 ∧ y.2 ≤ k.toNat ∧ y.1.take y.2 = List.replicate y.2 x) (fun y => k.toNat - y.2) (over (List.replicate k.toNat (0 : Int)) 0 [x], 1) ⟨hll, Nat.le_refl _, by dsimp only; omega, hl1⟩ (by repeat (first | exact trivial | refine ⟨has_rfl rfl, ?_⟩ | refine ⟨has_nil rfl, ?_⟩ | refine ⟨has_nilS rfl, ?_⟩ | refine ⟨has_gr rfl, ?_⟩ | refine ⟨has_int rfl (by first | omega | (simp only [List.length_append, List.length_singleton]; omega)), ?_⟩)) ?_
  rintro ⟨l, off⟩ ⟨hl, ho, hok, ht⟩ ih
  dsimp only at hl ho hok ht ih ⊢
  by_cases hlt : off < k.toNat
  · obtain ⟨q1, q2⟩ := take_rep hl ho hlt ht
    (repeat (first | refine c_seq ?_ | refine c_reg ?_ | refine c_rnil ?_ | refine c_block ?_ | refine c_inBlock ?_ | refine c_exit ?_ | refine c_skip ?_ | refine c_label ?_ | refine c_true ?_ | refine c_false ?_ | refine c_yes ?_ | refine c_no ?_ | refine c_op (by first | exact t_moveG | exact t_move | exact t_moveO | exact t_assignG | exact t_assignO | exact t_assign | exact t_pickT | exact t_pickF | exact t_add | exact t_sub | exact t_neg | exact t_not | exact t_min | exact t_max | exact t_lssT | exact t_lssF | exact t_lss | exact t_leqT | exact t_leqF | exact t_leq | exact t_gtrT | exact t_gtrF | exact t_gtr | exact t_geqT | exact t_geqF | exact t_geq | exact t_eqlT | exact t_eqlF | exact t_eql | exact t_neqT | exact t_neqF | exact t_neq | exact t_ext0 | exact t_ext1 | exact t_ext30 | exact t_ext31 | exact t_ext32 | exact t_len | exact t_lenN | exact t_lenR | exact t_idxN | exact t_idx | exact t_load | exact t_fa | exact t_fv | exact t_bl | exact t_sliceG | exact t_sliceLHN | exact t_sliceLN | exact t_sliceHN | exact t_sliceLH | exact t_sliceL | exact t_sliceH | exact t_bs | exact t_quo | exact t_rem | exact t_boxP) ?_ | refine c_opW t_app ?_))
    refine c_draw {} 7 3 [0] [] mixed (by kernel_rfl) rfl rfl ?_
    (repeat (first | refine d_op (by first | exact (t_sliceRL) | exact (t_sliceRH) | exact t_moveG | exact t_move | exact t_moveO | exact t_assignG | exact t_assignO | exact t_assign | exact t_pickT | exact t_pickF | exact t_add | exact t_sub | exact t_neg | exact t_not | exact t_min | exact t_max | exact t_lssT | exact t_lssF | exact t_lss | exact t_leqT | exact t_leqF | exact t_leq | exact t_gtrT | exact t_gtrF | exact t_gtr | exact t_geqT | exact t_geqF | exact t_geq | exact t_eqlT | exact t_eqlF | exact t_eql | exact t_neqT | exact t_neqF | exact t_neq | exact t_ext0 | exact t_ext1 | exact t_ext30 | exact t_ext31 | exact t_ext32 | exact t_len | exact t_lenN | exact t_lenR | exact t_idxN | exact t_idx | exact t_load | exact t_fa | exact t_fv | exact t_bl | exact t_sliceG | exact t_sliceLHN | exact t_sliceLN | exact t_sliceHN | exact t_sliceLH | exact t_sliceL | exact t_sliceH | exact t_bs | exact t_quo | exact t_rem | exact t_boxP) ?_ | refine d_yes (by first | exact (t_sliceRL) | exact (t_sliceRH) | exact t_moveG | exact t_move | exact t_moveO | exact t_assignG | exact t_assignO | exact t_assign | exact t_pickT | exact t_pickF | exact t_add | exact t_sub | exact t_neg | exact t_not | exact t_min | exact t_max | exact t_lssT | exact t_lssF | exact t_lss | exact t_leqT | exact t_leqF | exact t_leq | exact t_gtrT | exact t_gtrF | exact t_gtr | exact t_geqT | exact t_geqF | exact t_geq | exact t_eqlT | exact t_eqlF | exact t_eql | exact t_neqT | exact t_neqF | exact t_neq | exact t_ext0 | exact t_ext1 | exact t_ext30 | exact t_ext31 | exact t_ext32 | exact t_len | exact t_lenN | exact t_lenR | exact t_idxN | exact t_idx | exact t_load | exact t_fa | exact t_fv | exact t_bl | exact t_sliceG | exact t_sliceLHN | exact t_sliceLN | exact t_sliceHN | exact t_sliceLH | exact t_sliceL | exact t_sliceH | exact t_bs | exact t_quo | exact t_rem | exact t_boxP) ?_ | refine d_no ?_))
    refine d_nil ?_
    refine q_copy 100 (i := 7) (by kernel_rfl) rfl ?_ (hn := hl) (hof := by omega) (hnn := by omega)
    refine q_op 8 (by kernel_rfl) rfl t_add ?_
    refine q_op 9 (by kernel_rfl) rfl t_assign ?_
    refine q_nil ?_ (by kernel_rfl)
    (repeat (first | refine c_seq ?_ | refine c_reg ?_ | refine c_rnil ?_ | refine c_block ?_ | refine c_inBlock ?_ | refine c_exit ?_ | refine c_skip ?_ | refine c_label ?_ | refine c_true ?_ | refine c_false ?_ | refine c_yes ?_ | refine c_no ?_ | refine c_op (by first | exact t_moveG | exact t_move | exact t_moveO | exact t_assignG | exact t_assignO | exact t_assign | exact t_pickT | exact t_pickF | exact t_add | exact t_sub | exact t_neg | exact t_not | exact t_min | exact t_max | exact t_lssT | exact t_lssF | exact t_lss | exact t_leqT | exact t_leqF | exact t_leq | exact t_gtrT | exact t_gtrF | exact t_gtr | exact t_geqT | exact t_geqF | exact t_geq | exact t_eqlT | exact t_eqlF | exact t_eql | exact t_neqT | exact t_neqF | exact t_neq | exact t_ext0 | exact t_ext1 | exact t_ext30 | exact t_ext31 | exact t_ext32 | exact t_len | exact t_lenN | exact t_lenR | exact t_idxN | exact t_idx | exact t_load | exact t_fa | exact t_fv | exact t_bl | exact t_sliceG | exact t_sliceLHN | exact t_sliceLN | exact t_sliceHN | exact t_sliceLH | exact t_sliceL | exact t_sliceH | exact t_bs | exact t_quo | exact t_rem | exact t_boxP) ?_ | refine c_opW t_app ?_))
    exact (ih (over l off (l.take (min (k.toNat - off) off)), off + min (k.toNat - off) off) ⟨q2, by dsimp only; omega, by dsimp only; omega, q1⟩ (by dsimp only; omega)).sub (by repeat (first | exact trivial | refine ⟨has_rfl rfl, ?_⟩ | refine ⟨has_nil rfl, ?_⟩ | refine ⟨has_nilS rfl, ?_⟩ | refine ⟨has_gr rfl, ?_⟩ | refine ⟨has_int rfl (by first | omega | (simp only [List.length_append, List.length_singleton]; omega)), ?_⟩))
  · have : off = k.toNat := by omega
    subst this
    rw [← hl, List.take_length, hl] at ht
    (repeat (first | refine c_seq ?_ | refine c_reg ?_ | refine c_rnil ?_ | refine c_block ?_ | refine c_inBlock ?_ | refine c_exit ?_ | refine c_skip ?_ | refine c_label ?_ | refine c_true ?_ | refine c_false ?_ | refine c_yes ?_ | refine c_no ?_ | refine c_op (by first | exact t_moveG | exact t_move | exact t_moveO | exact t_assignG | exact t_assignO | exact t_assign | exact t_pickT | exact t_pickF | exact t_add | exact t_sub | exact t_neg | exact t_not | exact t_min | exact t_max | exact t_lssT | exact t_lssF | exact t_lss | exact t_leqT | exact t_leqF | exact t_leq | exact t_gtrT | exact t_gtrF | exact t_gtr | exact t_geqT | exact t_geqF | exact t_geq | exact t_eqlT | exact t_eqlF | exact t_eql | exact t_neqT | exact t_neqF | exact t_neq | exact t_ext0 | exact t_ext1 | exact t_ext30 | exact t_ext31 | exact t_ext32 | exact t_len | exact t_lenN | exact t_lenR | exact t_idxN | exact t_idx | exact t_load | exact t_fa | exact t_fv | exact t_bl | exact t_sliceG | exact t_sliceLHN | exact t_sliceLN | exact t_sliceHN | exact t_sliceLH | exact t_sliceL | exact t_sliceH | exact t_bs | exact t_quo | exact t_rem | exact t_boxP) ?_ | refine c_opW t_app ?_))
    refine c_retI 100 Try.func60 rfl ht ?_
    simp
end Go.Proofs.Ytocoinkhbjlbhaa
