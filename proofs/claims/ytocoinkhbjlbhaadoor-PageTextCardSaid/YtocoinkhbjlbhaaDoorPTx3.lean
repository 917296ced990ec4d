/-
  Merged by prune.py from the texts Kit11 D5 M25 D14 D15 D16 D6 D17 D18 D19 D20 D7 D8 T26b T26c T26d.
-/
import Derived.Calls
import Derived.Orders
import Derived.Below
import Derived.KernelRfl
import Derived.WalkKit
import Derived.Laws.AppendOwn
import Derived.Laws.Rows
import Derived.Deep.Slices
import Derived.Laws.OwnMore
import Derived.Laws.MakeOwn
import Derived.Laws.CopyRow
import Derived.Still
import Derived.Lib.SliceRun
import Derived.Test.YtocoinkhbjlbhaaDoorChecked
import Derived.Lib.AppendZeros
import Derived.Scope
import Derived.Test.YtocoinkhbjlbhaaDoorPTx2
section
namespace Go.Proofs.YtocoinkhbjlbhaaDoor
open Go Go.RowKit
structure TOpE (P : Program) (N : Nat) (o : Oper) (G : TF) (W : List Nat) {β : Type} (T T' : β → Kd) : Prop where
  out : ∃ xs : List Operand, (∀ x ∈ xs, x ∈ o.op.operands) ∧ ∀ {M0 : Mut} {w0 : World} {M : Mut} {w : World} {fr : Fr}, Rn M0 w0 M w → FitX w0.heap.size M w fr G (fun t => Operand.tmp t ∈ xs) →
    OP P N o fr w (fun v w' => ∃ (x : β) (M' : Mut), StW w0.heap.size W M w M' w' ∧ (T x).V w0.heap.size M' w' v ∧ (T' x).V w0.heap.size M' w' undef)
theorem TOpE.fit {P : Program} {N : Nat} {o : Oper} {G : TF} {W : List Nat} {β : Type} {T T' : β → Kd} (h : TOpE P N o G W T T') {M0 : Mut} {w0 : World} {M : Mut} {w : World} {fr : Fr} (hr : Rn M0 w0 M w) (hf : Fit w0.heap.size M w fr G) :
    OP P N o fr w (fun v w' => ∃ (x : β) (M' : Mut), StW w0.heap.size W M w M' w' ∧ (T x).V w0.heap.size M' w' v ∧ (T' x).V w0.heap.size M' w' undef) := by
  obtain ⟨xs, _, h2⟩ := h.out
  exact h2 hr ⟨hf.lay, fun t T hT _ => hf.out t T hT (.inr trivial)⟩
section
variable {P : Program} {f : FuncId} {N : Nat} {M0 : Mut} {w0 : World} {R : Value → World → Prop} {G : TF} {k : List Item}
variable {ops : Array Oper} {d : Nat} {op : Op} {ty : TypeId} {pos : String} {aft : Array Edge} {rest : List Oper}
theorem c_gh {todo : List Item} (key key' : Nat) {g : Gh} (T' : Kd) (hs : ∀ {B : Nat} {M : Mut} {w : World}, g.p B M w undef → T'.V B M w undef) (h : Rt P f N M0 w0 todo ((key', T') :: G) R) (ht : tlook G key = some (.gh g) := by rfl) (hg : T'.ghost = true := by rfl) :
    Rt P f N M0 w0 todo G R := ⟨fun hr hf => h.out hr (hf.hide (Kd.E_of_V hg (hs (hf.out key _ ht (.inr trivial)))))⟩
theorem c_gh2 {todo : List Item} (key key2 key' : Nat) {g g2 : Gh} (T' : Kd) (hs : ∀ {B : Nat} {M : Mut} {w : World}, g.p B M w undef → g2.p B M w undef → T'.V B M w undef) (h : Rt P f N M0 w0 todo ((key', T') :: G) R) (ht : tlook G key = some (.gh g) := by rfl) (ht2 : tlook G key2 = some (.gh g2) := by rfl)
    (hg : T'.ghost = true := by rfl) : Rt P f N M0 w0 todo G R := ⟨fun hr hf => h.out hr (hf.hide (Kd.E_of_V hg (hs (hf.out key _ ht (.inr trivial)) (hf.out key2 _ ht2 (.inr trivial)))))⟩
theorem c_gnew {todo : List Item} (key : Nat) (T' : Kd) (hs : ∀ {B : Nat} {M : Mut} {w : World}, T'.V B M w undef) (h : Rt P f N M0 w0 todo ((key, T') :: G) R) (hg : T'.ghost = true := by rfl) : Rt P f N M0 w0 todo G R :=
  ⟨fun hr hf => h.out hr (hf.hide (Kd.E_of_V hg hs))⟩
end
theorem c_join {P : Program} {f : FuncId} {N : Nat} {M0 : Mut} {w0 : World} {R : Value → World → Prop} {G : TF} {todo todo2 : List Item} (F : TF) (h : (∀ {G}, SubT F G → Rt P f N M0 w0 todo2 G R) → Rt P f N M0 w0 todo G R) (h2 : Rt P f N M0 w0 todo2 F R) : Rt P f N M0 w0 todo G R :=
  h fun hs => h2.sub hs
def varG {α : Type} (E : Enc α) (tag : Nat) (e : TypeId) : Gh where
  tags := [tag]
  p := fun B M w v => ∃ (b : Nat) (cs : List Value), v = .pointer (some ⟨b, 0, none⟩) ∧ B ≤ b ∧ cs.length = E.sz ∧ Box M w b tag cs e
  mono := fun ⟨b, cs, h1, h2, h3, h4⟩ hs ht => ⟨b, cs, h1, h2, h3, h4.stw hs (ht _ (by simp))⟩
section
variable {P : Program} {f : FuncId} {N : Nat} {M0 : Mut} {w0 : World} {R : Value → World → Prop} {G : TF} {k : List Item}
variable {ops : Array Oper} {d : Nat} {ty : TypeId} {pos : String} {aft : Array Edge} {rest : List Oper} {g : Option (Nat × Bool)}
theorem t_allocV {α : Type} {E : Enc α} {e : TypeId} (hE : TEc P e E := by infer_instance) : TOp P N ⟨some d, .alloc e, ty, pos, aft, g⟩ G [] (.go (varG E (1000 + d) e)) := ⟨[], by simp, fun {M0 w0 M w fr} hr _ => by
  obtain ⟨z, hz, hT⟩ := hE.out
  exact op_alloc (1000 + d) hr hT fun b w' M' hB hbx hup => ⟨M', StW.up hr.size hup, b, z, rfl, hB, hz, hbx⟩⟩
theorem stV_run {α : Type} {E : Enc α} {M M0 : Mut} {w0 w : World} {fr : Fr} {x y : Operand} {t e tag : Nat} {p : Pub} {x' : α} {v u : Value} {Ψ : Value → World → Prop} {dd : Option Tmp} (hr : Rn M0 w0 M w) (hx : opv fr x = some v) (hv : (varG E tag e).p w0.heap.size M w v)
    (hy : opv fr y = some u) (hu : p.p M w u) (hp : PEc p E x') (hE : TEc P t E)
    (h : ∀ M' w', StW w0.heap.size [tag] M w M' w' → (pPtr E x').p M' w' v → Ψ undef w') : OP P N ⟨dd, .store t x y, ty, pos, aft, g⟩ fr w Ψ := by
  obtain ⟨b, cs, rfl, hB, hlen, hbx⟩ := hv
  obtain ⟨z, hz, hT⟩ := hE.out
  obtain ⟨c, c1, c2⟩ := hp.out hu
  have hcl := E.len c1
  refine op_store hT hx hy (by rw [c2]; exact mkv_cells c1) (E.one c1) hcl hr hB hbx (by omega) fun w' hb' hst => ?_
  have hsp : splice cs 0 c = c := by
    unfold splice
    rw [List.take_zero, List.nil_append, List.drop_of_length_le (by omega), List.append_nil]
  rw [hsp] at hb'
  have hcl2 := St.clear (B := w0.heap.size) (w := w') hB hb'.mark
  have hs := StW.trans (StW.st hst) (StW.st hcl2)
  refine h _ _ hs ⟨_, rfl, c, E.mono c1 hs.x, fun j u hj => ?_⟩
  rw [Addr.add_lit, Nat.zero_add]
  refine ⟨by rw [hb'.cell]; exact hj, fun q hq => by simp [Mut.set] at hq⟩
theorem c_stV {α : Type} {E : Enc α} {s : Nat} {y : Operand} {t e tag : Nat} {p : Pub} {x' : α} (hk : RLt P f N M0 w0 ops k R rest ((s, .pu (pPtr E x')) :: dropW [tag] G)) (hx : tlook G s = some (.go (varG E tag e)) := by rfl) (hy : topP G y = some p := by rfl)
    (hp : PEc p E x' := by infer_instance) (hE : TEc P t E := by infer_instance) : RLt P f N M0 w0 ops k R (⟨none, .store t (.tmp s) y, ty, pos, aft, none⟩ :: rest) G := ⟨fun {M w fr} hr hf => by
  obtain ⟨v, h1, h2⟩ := hf.out s _ hx (.inr trivial)
  obtain ⟨u, h3, h4⟩ := hf.op0 hy (fun _ _ => trivial)
  refine rl_step0 (stV_run hr h1 h2 h3 h4 hp hE fun M' w' hs hv => ?_)
  exact hk.out (hr.stw hs) ((hf.after hs).hide ⟨v, h1, hv⟩)⟩
end
def pSv (b n cap : Nat) : Pub := pv (.slice (some ⟨b, 0, none⟩) n cap)
def RetG {α : Type} (M0 : Mut) (w0 : World) (E : Enc α) (l : List α) (e : TypeId) : Value → World → Prop := fun v w =>
  Below w0.heap.size w0 w ∧ ∀ tag, ∃ M', UpM M0 w0 M' w ∧ SlOf E M' w v l ∧ Grow w0.heap.size M' w v l.length E.sz tag e
structure FnG {α : Type} (P : Program) (g : FuncId) (Ps : List Pub) (E : Enc α) (l : List α) (e : TypeId) : Prop where
  ent : Ent P g
  run : ∀ M w vs, MB M w → Lays M w → FitL M w Ps vs → CallsV P g vs w (RetG M w E l e)
theorem fnG_of {α : Type} {P : Program} {f : FuncId} {N : Nat} {fn : Func} {c : Code} {Ps : List Pub} {E : Enc α} {l : List α} {e : TypeId} (he : Ent P f) (hf : P.funcs[f]? = some fn) (hb : fn.body = some c) (hN : fn.ntmps = N) (hn : Nat.ble Ps.length N = true)
    (h : ∀ M0 w0, Rt P f N M0 w0 [.code c] (argTF 0 Ps) (RetG M0 w0 E l e)) : FnG P f Ps E l e := ⟨he, fun M w vs hm hl hv => by
  have hlen := hv.len
  exact callsV_of_run hf hb hN (by rw [hlen]; exact Nat.le_of_ble_eq_true hn) ((h M w).out (Rn.refl hm) (fit_args hl 0 hv))⟩
theorem Grow.low {B B' : Nat} {M : Mut} {w : World} {v : Value} {n sz tag : Nat} {e : TypeId} (h : Grow B M w v n sz tag e) (hB : B' ≤ B) : Grow B' M w v n sz tag e := by
  rcases h.ex with h | ⟨g, off, cap, cur, h1, h2, h3⟩
  · exact ⟨.inl h⟩
  · exact ⟨.inr ⟨g, off, cap, cur, h1, Nat.le_trans hB h2, h3⟩⟩
theorem t_callG {α : Type} {P : Program} {N : Nat} {G : TF} {d : Option Tmp} {ty : TypeId} {pos : String} {aft : Array Edge} {g : Option (Nat × Bool)} {f : FuncId} {args : List Operand} {argT : Array TypeId} {Ps : List Pub} {E : Enc α} {l : List α} {e : TypeId} (tag : Nat) (h : FnG P f Ps E l e)
    (ha : topPs G args = some Ps := by rfl) : TOp P N ⟨d, .call ⟨.value (.func f), args.toArray, argT⟩, ty, pos, aft, g⟩ G [] (.gr E l tag e) := ⟨args, (by simp [Op.operands, Call.operands]; intro x hx; exact .inr hx), fun {M0 w0 M w fr} hr hf => by
  obtain ⟨vs, h1, h2⟩ := hf.ops ha (fun _ h => h)
  refine op_call h.ent h1 (h.run M w vs hr.mb hf.lay h2) fun v w' ⟨_, hv⟩ => ?_
  obtain ⟨M', k1, k2, k3⟩ := hv tag
  exact ⟨M', StW.up hr.size k1, k2, k3.low hr.size⟩⟩
section
variable {P : Program} {f : FuncId} {N : Nat} {M0 : Mut} {w0 : World} {R : Value → World → Prop} {G : TF} {k : List Item}
variable {ops : Array Oper} {d : Nat} {ty : TypeId} {pos : String} {aft : Array Edge} {rest : List Oper}
theorem c_retGN {α : Type} {E : Enc α} {e : TypeId} {fn : Func} {t : Nat} (hf : P.funcs[f]? = some fn) (hr : fn.results = #[.tmp t]) (hp : topP G (.tmp t) = some (pv (.slice none 0 0)) := by rfl) :
    Rt P f N M0 w0 (.code .ret :: k) G (RetG M0 w0 E ([] : List α) e) := ⟨fun {M w fr} hrn hfit => by
  obtain ⟨v, h1, rfl⟩ := hfit.op0 hp (fun _ _ => trivial)
  exact run_ret1 hf hr h1 ⟨hrn.bel, fun tag => ⟨M0, UpM.of_below hrn.bel, SlOf.nil _ _ _, Grow.nil⟩⟩⟩
theorem c_retG0 {α : Type} {E : Enc α} {e : TypeId} {fn : Func} {t b cap tag : Nat} {cs : List Value} (key : Nat) (hf : P.funcs[f]? = some fn) (hr : fn.results = #[.tmp t]) (hc : cs.length = cap * E.sz) (hm : cap ≤ maxLen) (hp : topP G (.tmp t) = some (pSv b 0 cap) := by rfl) (hg : tlook G key = some (.bx b tag cs e) := by rfl) :
    Rt P f N M0 w0 (.code .ret :: k) G (RetG M0 w0 E ([] : List α) e) := ⟨fun {M w fr} hrn hfit => by
  obtain ⟨v, h1, rfl⟩ := hfit.op0 hp (fun _ _ => trivial)
  obtain ⟨hB, hb⟩ := hfit.out key _ hg (.inr trivial)
  have hlt := hb.lt
  refine run_ret1 hf hr h1 ⟨hrn.bel, fun tag' => ⟨M0.set b (some (0, tag')), ⟨hrn.bel, fun c hc => by unfold Mut.set; rw [if_neg (by omega)], fun hmb c hc => by
    unfold Mut.set
    rw [if_neg (by omega)]
    exact hmb c (Nat.le_trans hrn.bel.size hc)⟩, ⟨some ⟨b, 0, none⟩, cap, rfl, Nat.zero_le _, hm, (fun e => by cases e), by simp, fun _ _ i hi => by simp at hi⟩, ⟨.inr ⟨b, 0, cap, cs.toArray, rfl, hB, hb.heap, Nat.zero_le _, hm, by simp [hc], by simp [Mut.set]⟩⟩⟩⟩⟩
theorem c_appZ {α : Type} {E : Enc α} {x y : Operand} {t tn e : TypeId} {kn k' : IntKind} {n by' : Nat} (tag key : Nat) (htn : P.underlying tn = some (.int kn)) (hk : ∀ b cap cs, n ≤ cap → cap ≤ maxLen → cs.length = cap * E.sz → RLt P f N M0 w0 ops k R rest ((d, .pu (pSv b n cap)) :: (key, .bx b tag cs e) :: G))
    (hx : topP G x = some (pv (.slice none 0 0)) := by rfl) (hy : topP G y = some (pK k' (n : Int)) := by rfl) (ht : USl P t e := by infer_instance) (hE : TEc P e E := by infer_instance) (hb : BYc E by' := by infer_instance)
    (h0 : 0 < n := by omega) (h48 : n * by' ≤ 140737488351232 := by omega) (h63 : n ≤ maxLen := by assumption) (hd : d < N := by decide) :
    RLt P f N M0 w0 ops k R (⟨some d, .call ⟨.builtin .append, #[x, y], #[t, tn]⟩, ty, pos, aft, none⟩ :: rest) G := ⟨fun {M w fr} hr hf => by
  obtain ⟨_, k0, rfl⟩ := hf.op0 hx (fun _ _ => trivial)
  obtain ⟨_, k1, rfl, _⟩ := hf.op0 hy (fun _ _ => trivial)
  obtain ⟨z, hz, hT⟩ := hE.out
  obtain ⟨i, z', hi, hs, hby, hz', hzc⟩ := hT.info
  have hpos := E.pos
  have hrun := Lib.run_append_nil_zeros (P := P) w t tn ty e i z' k' kn ht.out htn hi hz' n h0 (by omega) (by unfold maxLen at h63; omega) (by rw [hby, hb.out]; omega)
  have hcap := grownCap_ge w n 0 e
  have hmax := grownCap_le_maxLen w n 0 e h63
  have hzl : z'.cells.size = E.sz := by rw [hzc]; simpa using hz
  have hcs : (Builtin.zeroCells z'.cells n ++ Builtin.zeroCells z'.cells (grownCap w n 0 e - n)).toList.length = grownCap w n 0 e * E.sz := by
    rw [Array.length_toList, Array.size_append, size_zeroCells, size_zeroCells, hzl, ← Nat.add_mul]
    congr 1
    omega
  have hst := St.alloc (M := M) (w := w) (B := w0.heap.size) hr.size hr.mb (.cells (Builtin.zeroCells z'.cells n ++ Builtin.zeroCells z'.cells (grownCap w n 0 e - n)) e) (some (0, tag))
    (w' := w.drew.alloc (.cells (Builtin.zeroCells z'.cells n ++ Builtin.zeroCells z'.cells (grownCap w n 0 e - n)) e)) rfl rfl rfl rfl
  have hsw : StW w0.heap.size [] M w (M.set w.heap.size (some (0, tag))) (w.drew.alloc (.cells (Builtin.zeroCells z'.cells n ++ Builtin.zeroCells z'.cells (grownCap w n 0 e - n)) e)) :=
    ⟨hst.x, hst.mb, hst.old, hst.bel, fun b p hp _ hb => hst.keep b p hp (by simp) hb⟩
  refine rl_step hd (OP.val (v := .slice (some ⟨w.heap.size, 0, none⟩) n (grownCap w n 0 e)) (w' := w.drew.alloc (.cells (Builtin.zeroCells z'.cells n ++ Builtin.zeroCells z'.cells (grownCap w n 0 e - n)) e))
    (fun a ha => by simp only [execOp, resolve, invoke, builtin, Sem.run_bind, Sem.run_pure, Result.andThen_ok, List.map_toArray, List.map_cons, List.map_nil, ha.eval k0, ha.eval k1, hrun]) ?_)
  refine (hk w.heap.size (grownCap w n 0 e) _ hcap hmax hcs).out (hr.stw hsw) (Fit.cons (T := .pu (pSv w.heap.size n (grownCap w n 0 e))) (Fit.hide (T := .bx w.heap.size tag _ e) (hf.up hsw) ⟨hr.size, ?_, by simp [Mut.set]⟩) rfl)
  rw [Array.toArray_toList]
  exact heap_alloc_new w.drew _⟩
end
section
variable {P : Program} {N : Nat} {G : TF} {d : Option Tmp} {ty : TypeId} {pos : String} {aft : Array Edge} {g : Option (Nat × Bool)}
theorem t_capN {x : Operand} {t e : TypeId} (hx : topP G x = some (pv (.slice none 0 0)) := by rfl) (ht : USl P t e := by infer_instance) :
    TOp P N ⟨d, .call ⟨.builtin .cap, #[x], #[t]⟩, ty, pos, aft, g⟩ G [] (.pu (pI 0)) := .pure [x] (by simp [Op.operands, Call.operands]) fun {B M w fr} hf => by
  obtain ⟨_, h0, rfl⟩ := hf.op hx (by simp)
  exact OP.val (v := .int .i64 0) (fun a ha => by
    simp [execOp, resolve, invoke, builtin, Builtin.cap_, ha.eval h0, run_underlying ht.out, goInt]) ⟨rfl, rfl, rng64 (by omega)⟩
theorem t_sliceNH {α : Type} {E : Enc α} {x hi : Operand} {t e : TypeId} {k : IntKind} (hx : topP G x = some (pv (.slice none 0 0)) := by rfl) (h1 : topP G hi = some (pK k 0) := by rfl)
    (ht : USl P t e := by infer_instance) (hE : TEc P e E := by infer_instance) : TOp P N ⟨d, .slice t x none (some hi) none, ty, pos, aft, g⟩ G [] (.pu (pv (.slice none 0 0))) := .pure [x, hi] (by simp [Op.operands]) fun {B M w fr} hf => by
  obtain ⟨_, k0, rfl⟩ := hf.op hx (by simp)
  obtain ⟨_, k2, rfl, _⟩ := hf.op h1 (by simp)
  obtain ⟨z, hz, hT⟩ := hE.out
  refine OP.val (w' := w) (fun a' ha => ?_) ⟨rfl, rfl⟩
  have b2 : (Instr.sliceBound (.int k 0) 0 .sliceAcap).run P w = .ok 0 w := run_bound (n := 0) (by omega)
  simp only [execOp, ha.eval k0, ha.eval k2, Option.map_some, Option.map_none]
  simp [Instr.sliceAt, Instr.slice, run_underlying ht.out, Instr.sliceBounds, b2, hT.run_sizeOf (w := w)]
theorem t_sliceSH {α : Type} {E : Enc α} {x hi : Operand} {b n cap m : Nat} {t e : TypeId} {k : IntKind} (hx : topP G x = some (pSv b n cap) := by rfl) (h1 : topP G hi = some (pK k (m : Int)) := by rfl)
    (ht : USl P t e := by infer_instance) (hE : TEc P e E := by infer_instance) (hb : m ≤ cap := by omega) : TOp P N ⟨d, .slice t x none (some hi) none, ty, pos, aft, g⟩ G [] (.pu (pSv b m cap)) := .pure [x, hi] (by simp [Op.operands]) fun {B M w fr} hf => by
  obtain ⟨_, k0, rfl⟩ := hf.op hx (by simp)
  obtain ⟨_, k2, rfl, _⟩ := hf.op h1 (by simp)
  obtain ⟨z, hz, hT⟩ := hE.out
  refine OP.val (w' := w) (fun a' ha => ?_) ⟨rfl, rfl⟩
  have b2 : (Instr.sliceBound (.int k (m : Int)) cap .sliceAcap).run P w = .ok m w := run_bound (n := m) (by omega)
  simp only [execOp, ha.eval k0, ha.eval k2, Option.map_some, Option.map_none]
  simp [Instr.sliceAt, Instr.slice, run_underlying ht.out, Instr.sliceBounds, b2, hT.run_sizeOf (w := w), Addr.add]
end
end Go.Proofs.YtocoinkhbjlbhaaDoor
end

section
namespace Go.Proofs.YtocoinkhbjlbhaaDoor
open Go Go.RowKit
theorem tdSSSW : TD Tryd.prog 94 1 24 false [.slice none 0 0] := TD.mk' (z := .slice none 0 0) (d := .slice 23) (by kernel_rfl) (by kernel_rfl) rfl
instance : TEc Tryd.prog 94 (eSl (eSl (eSl eWord))) := ⟨_, rfl, tdSSSW⟩
instance : USl Tryd.prog 94 23 := ⟨Tryd.underlying94⟩
theorem i_len24 {α : Type} {E : Enc α} {M : Mut} {w : World} {v : Value} {l : List (List α)} (h : SlOf (eSl E) M w v l) : l.length ≤ 5864062014805 := by
  have := h.bytes
  have e : (eSl E).by_ = 24 := rfl
  rw [e] at this
  omega
theorem i_len48 {M : Mut} {w : World} {v : Value} {l : List Wd} (h : SlOf eWord M w v l) : l.length ≤ 2932031007403 := by
  have := h.bytes
  have e : eWord.by_ = 48 := rfl
  rw [e] at this
  omega
theorem growW_f {n : Nat} (h48 : n * 24 ≤ 140737488351232) : FnG Tryd.prog 65 [pv (.slice none 0 0), pI n] (eSl eWord) [] 27 := by
  refine fnG_of ent65 Tryd.func65 rfl Tryd.ntmps65 rfl fun M0 w0 => ?_
  have h63 : n ≤ maxLen := by unfold maxLen; omega
  have e0 : ((n : Int) - (0 - 0)) = (n : Nat) := by omega
  by_cases h0 : n = 0
  · subst h0
    (repeat (first | refine c_seq ?_ | refine c_reg ?_ | refine c_rnil ?_ | refine c_skip ?_ | refine c_false ?_ | refine c_op (by first | exact (t_capN) | exact (t_gtrF) | exact t_move | exact t_assign | exact t_sub | exact t_lssF | exact t_lenN | fail) ?_ | fail))
    refine c_retGN Tryd.func65 rfl
  · (repeat (first | refine c_seq ?_ | refine c_reg ?_ | refine c_rnil ?_ | refine c_skip ?_ | refine c_true ?_ | refine c_false ?_ | refine c_op (by first | exact (t_capN) | exact t_move | exact t_assign | exact t_sub | exact t_lssF | exact t_gtrT | exact t_lenN | fail) ?_ | fail))
    refine r_to 1 (.pu (pI (n : Nat))) ?_ ?_
    · exact has_int rfl e0
    (repeat (first | refine (c_appZ 1 100 Tryd.underlying3) ?_ | refine c_op (by first | exact (t_sliceNH) | exact t_move | fail) ?_ | fail))
    intro b cap cs h1 h2 h3
    (repeat (first | refine c_seq ?_ | refine c_reg ?_ | refine c_rnil ?_ | refine c_op (by first | exact (t_sliceSH (m := 0)) | exact t_move | exact t_assign | exact t_lenN | fail) ?_ | fail))
    exact c_retG0 100 Tryd.func65 rfl h3 h2
theorem flatW_take {α : Type} {ls : List (List α)} {i : Nat} (h : i < ls.length) : (ls.take (i + 1)).flatten = (ls.take i).flatten ++ ls[i] := by
  rw [List.take_succ_eq_append_getElem h, List.flatten_append]; simp
theorem flat_le {α : Type} (ls : List (List α)) (i : Nat) : (ls.take i).flatten.length ≤ ls.flatten.length := by
  have : ls.flatten = (ls.take i).flatten ++ (ls.drop i).flatten := by rw [← List.flatten_append, List.take_append_drop]
  rw [this, List.length_append]; omega
set_option maxHeartbeats 1000000 in
theorem concatW_f {ls : List (List (List Wd))} (h48 : ls.flatten.length * 24 ≤ 140737488351232) : Fn Tryd.prog 39 [pSl (eSl (eSl eWord)) ls] (pSl (eSl eWord) ls.flatten) := by
  refine fn_of ent39 Tryd.func39 rfl Tryd.ntmps39 rfl fun M0 w0 => ?_
  refine c_have 0 (fun h => i_len24 h) fun hl => ?_
  (repeat (first | refine c_seq ?_ | refine c_reg ?_ | refine c_rnil ?_ | refine c_block ?_ | refine c_op (by first | exact t_move | exact t_assign | exact t_len | fail) ?_ | fail))
  refine c_loop (fun i : Nat => [(0, .pu (pSl (eSl (eSl eWord)) ls)), (3, .pu (pI (ls.take i).flatten.length)), (9, .pu (pSl (eSl (eSl eWord)) ls)), (10, .pu (pI ls.length)), (11, .pu (pI i))]) (fun i => i ≤ ls.length) (fun i => ls.length - i) 0 (by omega) (by repeat (first | exact trivial | refine ⟨has_rfl rfl, ?_⟩ | fail)) fun i hi ih => ?_
  by_cases hlt : i < ls.length
  · have h1 := flatW_take hlt
    have h2 := flat_le ls (i + 1)
    have h3 : (ls.take (i + 1)).flatten.length = (ls.take i).flatten.length + ls[i].length := by rw [h1, List.length_append]
    (repeat (first | refine c_seq ?_ | refine c_reg ?_ | refine c_rnil ?_ | refine c_block ?_ | refine c_inBlock ?_ | refine c_skip ?_ | refine c_true ?_ | refine c_false ?_ | refine c_op (by first | exact t_move | exact t_assign | exact t_add | exact t_lssT | exact t_lssF | exact t_len | exact t_idxN | exact t_load | fail) ?_ | fail))
    exact (ih (i + 1) (by omega) (by omega)).sub (by repeat (first | exact trivial | refine ⟨has_rfl rfl, ?_⟩ | refine ⟨has_int rfl (by first | omega | fail), ?_⟩))
  · have hfin : (ls.take i).flatten.length = ls.flatten.length := by rw [List.take_of_length_le (by omega)]
    rw [hfin]
    (repeat (first | refine c_seq ?_ | refine c_reg ?_ | refine c_rnil ?_ | refine c_block ?_ | refine c_exit ?_ | refine c_false ?_ | refine c_op (by first | exact (t_callG 1 (growW_f h48)) | exact t_move | exact t_assignG | exact t_lssF | exact t_len | fail) ?_ | fail))
    refine c_loop (fun i : Nat => [(0, .pu (pSl (eSl (eSl eWord)) ls)), (6, .gr (eSl eWord) (ls.take i).flatten 1 27), (25, .pu (pSl (eSl (eSl eWord)) ls)), (26, .pu (pI ls.length)), (27, .pu (pI i))]) (fun i => i ≤ ls.length) (fun i => ls.length - i) 0 (by omega) (by repeat (first | exact trivial | refine ⟨has_rfl rfl, ?_⟩ | fail)) fun i hi ih => ?_
    by_cases hlt : i < ls.length
    · have h1 := flatW_take hlt
      have h2 := flat_le ls (i + 1)
      have h3 : (ls.take (i + 1)).flatten.length = (ls.take i).flatten.length + ls[i].length := by rw [h1, List.length_append]
      (repeat (first | refine c_seq ?_ | refine c_reg ?_ | refine c_rnil ?_ | refine c_block ?_ | refine c_inBlock ?_ | refine c_skip ?_ | refine c_true ?_ | refine c_op (by first | exact t_moveG | exact t_move | exact t_assignG | exact t_assign | exact t_add | exact t_lssT | exact t_idxN | exact t_load | fail) ?_ | refine c_opW t_app ?_ | fail))
      refine (ih (i + 1) (by omega) (by omega)).sub ?_
      rw [h1]
      (repeat' (first | exact trivial | refine ⟨?_, ?_⟩ | fail)) <;> (try first | exact has_rfl rfl | exact has_nil rfl | exact has_nilS rfl | exact has_gr rfl | exact has_nilGo rfl | exact has_int rfl (by first | omega | fail) | fail)
    · (repeat (first | refine c_seq ?_ | refine c_reg ?_ | refine c_rnil ?_ | refine c_exit ?_ | refine c_false ?_ | refine c_op (by first | exact t_moveG | exact t_assignG | exact t_lssF | fail) ?_ | fail))
      refine c_ret1 Tryd.func39 rfl ?_
      exact fun h => by rw [List.take_of_length_le (show ls.length ≤ i by omega)] at h; exact h
def idxQ (q : List Wd → Bool) : List (List Wd) → Int → Int
  | [], _ => -1
  | x :: r, i => if q x then i else idxQ q r (i + 1)
theorem idxQ_any {q : List Wd → Bool} : ∀ (l : List (List Wd)) (i : Int), 0 ≤ i → (0 ≤ idxQ q l i ↔ l.any q = true)
  | [], i, _ => by simp [idxQ]
  | x :: r, i, h => by
    simp only [idxQ, List.any_cons, Bool.or_eq_true]
    split
    · rename_i hp; simp [hp, h]
    · rename_i hp; rw [idxQ_any r (i + 1) (by omega)]; simp [hp]
theorem indexQ_f {f : FuncId} {q : List Wd → Bool} (hq : ∀ p, Fn Tryd.prog f [pSl eWord p] (pB (q p))) {l : List (List Wd)} : Fn Tryd.prog 80 [pSl (eSl eWord) l, pv (.func (.func f) #[] #[])] (pI (idxQ q l 0)) := by
  refine fn_of ent80 Tryd.func80 rfl Tryd.ntmps80 rfl fun M0 w0 => ?_
  refine c_have 0 (fun h => i_len24 h) fun hl => ?_
  obtain ⟨r, hr⟩ : ∃ r, r = idxQ q l 0 := ⟨_, rfl⟩
  rw [← hr]
  (repeat (first | refine c_seq ?_ | refine c_reg ?_ | refine c_rnil ?_ | refine c_block ?_ | refine c_op (by first | exact t_move | exact t_assign | exact t_len | fail) ?_ | fail))
  refine c_loop (fun i : Nat => [(0, .pu (pSl (eSl eWord) l)), (1, .pu (pv (.func (.func f) #[] #[]))), (7, .pu (pI l.length)), (8, .pu (pI i))]) (fun i => i ≤ l.length ∧ r = idxQ q (l.drop i) i) (fun i => l.length - i) 0 ⟨by omega, hr⟩ (by repeat (first | exact trivial | refine ⟨has_rfl rfl, ?_⟩ | fail)) fun i ⟨hi, hri⟩ ih => ?_
  by_cases hlt : i < l.length
  · rw [List.drop_eq_getElem_cons hlt] at hri
    simp only [idxQ] at hri
    cases hp : q l[i]
    · have hp' : Fn Tryd.prog f [pSl eWord l[i]] (pB false) := hp ▸ hq l[i]
      simp only [hp, Bool.false_eq_true, if_false] at hri
      (repeat (first | refine c_seq ?_ | refine c_reg ?_ | refine c_rnil ?_ | refine c_block ?_ | refine c_inBlock ?_ | refine c_skip ?_ | refine c_true ?_ | refine c_false ?_ | refine c_op (by first | exact (t_callv (h := hp')) | exact t_move | exact t_assign | exact t_add | exact t_lssT | exact t_idxN | exact t_load | fail) ?_ | fail))
      exact (ih (i + 1) ⟨by omega, hri⟩ (by omega)).sub (by repeat (first | exact trivial | refine ⟨has_rfl rfl, ?_⟩ | fail))
    · have hp' : Fn Tryd.prog f [pSl eWord l[i]] (pB true) := hp ▸ hq l[i]
      simp only [hp, if_true] at hri
      (repeat (first | refine c_seq ?_ | refine c_reg ?_ | refine c_rnil ?_ | refine c_block ?_ | refine c_skip ?_ | refine c_true ?_ | refine c_op (by first | exact (t_callv (h := hp')) | exact t_move | exact t_assign | exact t_lssT | exact t_idxN | exact t_load | fail) ?_ | fail))
      refine c_ret1 Tryd.func80 rfl ?_
      exact fun h => by rw [hri]; exact h
  · rw [List.drop_of_length_le (by omega)] at hri
    simp only [idxQ] at hri
    rw [hri]
    (repeat (first | refine c_seq ?_ | refine c_reg ?_ | refine c_rnil ?_ | refine c_exit ?_ | refine c_false ?_ | refine c_op (by first | exact t_assign | exact t_lssF | fail) ?_ | fail))
    refine c_ret1 Tryd.func80 rfl ?_
    exact fun h => h
theorem containsQ_f {f : FuncId} {q : List Wd → Bool} (hq : ∀ p, Fn Tryd.prog f [pSl eWord p] (pB (q p))) {l : List (List Wd)} : Fn Tryd.prog 53 [pSl (eSl eWord) l, pv (.func (.func f) #[] #[])] (pB (l.any q)) := by
  refine fn_of ent53 Tryd.func53 rfl Tryd.ntmps53 rfl fun M0 w0 => ?_
  have e : l.any q = decide (0 ≤ idxQ q l 0) := by rw [Bool.eq_iff_iff, decide_eq_true_eq]; exact (idxQ_any l 0 (by omega)).symm
  rw [e]
  (repeat (first | refine c_seq ?_ | refine c_reg ?_ | refine c_rnil ?_ | refine c_op (by first | exact t_call (h := (indexQ_f hq)) | exact t_move | exact t_assign | exact t_geq | fail) ?_ | fail))
  refine c_ret1 Tryd.func53 rfl ?_
  exact fun h => h
theorem long_f {p : List Wd} : Fn Tryd.prog 54 [pSl eWord p] (pB (decide (500 < p.length))) := by
  refine fn_of ent54 Tryd.func54 rfl Tryd.ntmps54 rfl fun M0 w0 => ?_
  have e : decide (500 < p.length) = decide ((500 : Int) < p.length) := decide_eq_decide.2 (by omega)
  rw [e]
  (repeat (first | refine c_seq ?_ | refine c_reg ?_ | refine c_rnil ?_ | refine c_op (by first | exact t_move | exact t_assign | exact t_gtr | exact t_len | fail) ?_ | fail))
  refine c_ret1 Tryd.func54 rfl ?_
  exact fun h => h
theorem none_f {p : List Wd} : Fn Tryd.prog 55 [pSl eWord p] (pB (decide (p.length = 0))) := by
  refine fn_of ent55 Tryd.func55 rfl Tryd.ntmps55 rfl fun M0 w0 => ?_
  have e : decide (p.length = 0) = decide ((p.length : Int) = 0) := decide_eq_decide.2 (by omega)
  rw [e]
  (repeat (first | refine c_seq ?_ | refine c_reg ?_ | refine c_rnil ?_ | refine c_op (by first | exact t_move | exact t_assign | exact t_eql | exact t_len | fail) ?_ | fail))
  refine c_ret1 Tryd.func55 rfl ?_
  exact fun h => h
end Go.Proofs.YtocoinkhbjlbhaaDoor
end

section
namespace Go.Proofs.YtocoinkhbjlbhaaDoor
open Go Go.RowKit
def emp : ByteArray := ⟨#[]⟩
def wErr (w : Wd) (next n : Int) : Int :=
  if ¬ 0 < widM w.s ∨ (w.key ≠ emp ∧ ¬ 0 < widM w.key) then 7
  else if w.table ≠ 0 ∧ w.table ≠ 1 then 5
  else if w.note ≠ 0 ∧ (w.note ≠ next ∨ n < w.note) then 5 else 0
def chkP (n : Int) (k : Int → Int) : List Wd → Int → Int
  | [], next => k next
  | w :: r, next => if wErr w next n ≠ 0 then wErr w next n else chkP n k r (if w.note ≠ 0 then next + 1 else next)
def chkA (n : Int) (k : Int → Int) : List (List Wd) → Int → Int
  | [], next => k next
  | p :: r, next => chkP n (chkA n k r) p next
def chkQ (k : Int) : List Wd → Int
  | [] => k
  | w :: r => if wErr w 0 0 ≠ 0 then wErr w 0 0 else chkQ k r
def chkB (k : Int) : List (List Wd) → Int
  | [] => k
  | p :: r => chkQ (chkB k r) p
def longP (l : List (List Wd)) : Bool := l.any fun p => decide (500 < p.length)
def noneP (l : List (List Wd)) : Bool := l.any fun p => decide (p.length = 0)
def sizeM (t : Tx) : Int :=
  if 100 < t.paras.length ∨ 100 < t.notes.length then 2
  else if longP (t.paras ++ t.notes) = true then 2
  else if noneP (t.paras ++ t.notes) = true then 1 else 0
def lastK (n : Nat) (next : Int) : Int := if next ≠ n + 1 then 3 else 0
def chkT (t : Tx) : Int := if sizeM t ≠ 0 then sizeM t else chkA t.notes.length (fun next => chkB (lastK t.notes.length next) t.notes) t.paras 1
theorem size_ok {t : Tx} (h : sizeM t = 0) : t.paras.length ≤ 100 ∧ t.notes.length ≤ 100 ∧ ∀ p ∈ t.paras ++ t.notes, 1 ≤ p.length ∧ p.length ≤ 500 := by
  unfold sizeM at h
  split at h
  · cases h
  · split at h
    · cases h
    · split at h
      · cases h
      · rename_i h1 h2 h3
        refine ⟨by omega, by omega, fun p hp => ?_⟩
        unfold longP at h2
        unfold noneP at h3
        simp only [List.any_eq_true, not_exists, decide_eq_true_eq, not_and] at h2 h3
        have := h2 p hp
        have := h3 p hp
        omega
end Go.Proofs.YtocoinkhbjlbhaaDoor
end

section
namespace Go.Proofs.YtocoinkhbjlbhaaDoor
open Go Go.RowKit
theorem GrowS.stw0 {B B' : Nat} {M M' : Mut} {w w' : World} {v : Value} {n sz tag : Nat} {e : TypeId} {W : List Nat} (h : GrowS B M w v n sz tag e) (s : StW B' W M w M' w') (ht : tag ∉ W) : GrowS B M' w' v n sz tag e := by
  obtain ⟨g, off, cap, cur, k1, k2, k3, k4, k5, k6, k7⟩ := h.ex
  obtain ⟨q1, q2⟩ := s.keep g _ k7 ht (Array.getElem?_eq_some_iff.1 k3).1
  exact ⟨⟨g, off, cap, cur, k1, k2, q2.trans k3, k4, k5, k6, q1⟩⟩
def grs {α : Type} (E : Enc α) (l : List α) (tag : Nat) (e : TypeId) : Gh where
  tags := [tag]
  p := fun B M w v => SlOf E M w v l ∧ ((v = .slice none 0 0 ∧ l = []) ∨ GrowS B M w v l.length E.sz tag e)
  mono := fun ⟨h1, h2⟩ hs ht => ⟨h1.mono hs.x, h2.imp id fun h => h.stw0 hs (ht _ (by simp))⟩
section
variable {P : Program} {N : Nat} {G : TF} {d : Option Tmp} {ty : TypeId} {pos : String} {aft : Array Edge} {g : Option (Nat × Bool)}
theorem t_moveGo {gh : Gh} {t : Nat} (hx : tlook G t = some (.go gh) := by rfl) : TOp P N ⟨d, .move (.tmp t), ty, pos, aft, g⟩ G [] (.go gh) :=
  ⟨[.tmp t], by simp [Op.operands], fun {M0 w0 M w fr} hr hf => by
    obtain ⟨v, h1, h2⟩ := hf.out t _ hx (.inr (by simp))
    exact op_move h1 ⟨M, StW.refl _ _ _, h2⟩⟩
theorem t_assignGo {gh : Gh} {t : Nat} (hx : tlook G t = some (.go gh) := by rfl) : TOp P N ⟨d, .assign (.tmp t), ty, pos, aft, g⟩ G [] (.go gh) :=
  ⟨[.tmp t], by simp [Op.operands], fun {M0 w0 M w fr} hr hf => by
    obtain ⟨v, h1, h2⟩ := hf.out t _ hx (.inr (by simp))
    exact op_assign h1 ⟨M, StW.refl _ _ _, h2⟩⟩
theorem t_appS {α : Type} {E : Enc α} {y : Operand} {s tag by' : Nat} {l l2 : List α} {t e : TypeId} (hx : tlook G s = some (.go (grs E l tag e)) := by rfl) (hy : topP G y = some (pSl E l2) := by rfl)
    (ht : USl P t e := by infer_instance) (hE : TEc P e E := by infer_instance) (hb : BYc E by' := by infer_instance) (h0 : l2.length ≠ 0 := by simp)
    (hl : (l.length + l2.length) * by' ≤ 140737488351232 := by first | omega | (simp only [List.length_append, List.length_cons, List.length_nil]; omega)) :
    TOp P N ⟨d, .call ⟨.builtin .append, #[.tmp s, y], #[t, t]⟩, ty, pos, aft, g⟩ G [tag] (.go (grs E (l ++ l2) tag e)) := ⟨[.tmp s, y], by simp [Op.operands, Call.operands], fun {M0 w0 M w fr} hr hf => by
  obtain ⟨v, k0, k1, k2⟩ := hf.out s _ hx (.inr (by simp))
  obtain ⟨u, k3, k4⟩ := hf.op hy (by simp)
  have hg : Grow w0.heap.size M w v l.length E.sz tag e := by
    rcases k2 with ⟨rfl, rfl⟩ | h
    · exact Grow.nil
    · exact h.grow
  exact op_appendS ht.out hE.out k0 k3 hr k1 hg k4 (by rw [hb.out]; exact hl) h0 fun v' w' M' h1 h2 h3 => ⟨M', StW.st h3, h1, .inr h2⟩⟩
end
theorem has_nilGo {G : TF} {t : Nat} {α : Type} {E : Enc α} {tag : Nat} {e : TypeId} (h : tlook G t = some (.pu (pv (.slice none 0 0)))) : Has G t (.go (grs E [] tag e)) := fun hf => by
  obtain ⟨v, h1, rfl⟩ := hf.out t _ h (.inr trivial)
  exact ⟨_, h1, SlOf.nil _ _ _, .inl ⟨rfl, rfl⟩⟩
theorem wordR_flat {M M' : Mut} {w w' : World} {cs : List Value} {x : Wd} (h : eWord.R M w cs x) : eWord.R M' w' cs x := h
theorem cssW_flat {M M' : Mut} {w w' : World} : ∀ {l : List Wd} {css : List Value}, CSS eWord M w css l → CSS eWord M' w' css l
  | [], _, h => h
  | _ :: _, _, ⟨a, b, h1, h2, h3⟩ => ⟨a, b, h1, wordR_flat h2, cssW_flat h3⟩
structure RowD where
  b : Nat
  off : Nat
  cap : Nat
  ws : List Wd
def RowD.v (r : RowD) : Value := .slice (some ⟨r.b, r.off, none⟩) r.ws.length r.cap
structure RowAt (w : World) (r : RowD) : Prop where
  len : r.ws.length ≤ r.cap
  cap : r.cap ≤ maxLen
  by_ : r.ws.length * 48 ≤ 140737488351232
  ex : ∃ pre css rest : List Value, pre.length = r.off ∧ CSS eWord (fun _ => none) w css r.ws ∧ w.heap[r.b]? = some (.cells (pre ++ css ++ rest).toArray 29 (0, 0))
theorem RowAt.lt {w : World} {r : RowD} (h : RowAt w r) : r.b < w.heap.size := by
  obtain ⟨_, _, _, _, _, h⟩ := h.ex
  exact (Array.getElem?_eq_some_iff.1 h).1
theorem RowAt.same {w w' : World} {r : RowD} (h : RowAt w r) (e : w'.heap[r.b]? = w.heap[r.b]?) : RowAt w' r := by
  obtain ⟨pre, css, rest, h1, h2, h3⟩ := h.ex
  exact ⟨h.len, h.cap, h.by_, pre, css, rest, h1, cssW_flat h2, e.trans h3⟩
theorem RowAt.sl {w : World} {r : RowD} (h : RowAt w r) {M : Mut} (hM : M r.b = none) : SlOf eWord M w r.v r.ws := by
  obtain ⟨pre, css, rest, h1, h2, h3⟩ := h.ex
  refine SlOf.of_row_at (css := css) (cssW_flat h2) h3 ?_ h.len h.cap h.by_ (fun p hp => by rw [hM] at hp; cases hp)
  have e4 : eWord.sz = 4 := rfl
  have hl := h2.len
  rw [← hl, ← h1]
  simp only [List.append_assoc, List.drop_left]
  exact List.take_left
structure RowOk (B : Nat) (M : Mut) (w : World) (tag : Nat) (r : RowD) : Prop where
  ge : B ≤ r.b
  at_ : RowAt w r
  mark : M r.b = some (0, tag)
theorem RowOk.stw {B B' : Nat} {M M' : Mut} {w w' : World} {W : List Nat} {tag : Nat} {r : RowD} (h : RowOk B M w tag r) (hs : StW B' W M w M' w') (ht : tag ∉ W) : RowOk B M' w' tag r := by
  obtain ⟨q1, q2⟩ := hs.keep r.b _ h.mark ht h.at_.lt
  exact ⟨h.ge, h.at_.same q2, q1⟩
def rowG (tag : Nat) (ws : List Wd) (avoid : List Nat) : Gh where
  tags := [tag]
  p := fun B M w v => ∃ r : RowD, r.ws = ws ∧ v = r.v ∧ RowOk B M w tag r ∧ r.b ∉ avoid
  mono := fun ⟨r, h1, h2, h3, h4⟩ hs ht => ⟨r, h1, h2, h3.stw hs (ht _ (by simp)), h4⟩
def row1G (tag : Nat) (r : RowD) : Gh where
  tags := [tag]
  p := fun B M w _ => RowOk B M w tag r
  mono := fun h hs ht => h.stw hs (ht _ (by simp))
def rowsG (tag : Nat) (rows : List RowD) : Gh where
  tags := [tag]
  p := fun B M w _ => (∀ r ∈ rows, RowOk B M w tag r) ∧ (rows.map RowD.b).Nodup
  mono := fun ⟨h1, h2⟩ hs ht => ⟨fun r hr => (h1 r hr).stw hs (ht _ (by simp)), h2⟩
theorem rows_snoc {tag : Nat} {rows : List RowD} {r : RowD} (hn : r.b ∉ rows.map RowD.b) {B : Nat} {M : Mut} {w : World} (h : (rowsG tag rows).p B M w undef) (h2 : (row1G tag r).p B M w undef) : (Kd.gh (rowsG tag (rows ++ [r]))).V B M w undef := by
  refine ⟨fun x hx => ?_, ?_⟩
  · rcases List.mem_append.1 hx with hx | hx
    · exact h.1 x hx
    · rw [List.mem_singleton.1 hx]; exact h2
  · rw [List.map_append, List.nodup_append]
    refine ⟨h.2, by simp, fun a ha b hb e => ?_⟩
    simp only [List.map_cons, List.map_nil, List.mem_singleton] at hb
    subst hb e
    exact hn ha
def eRaw : Enc Value where
  sz := 1
  by_ := 24
  agg := false
  R := fun _ _ cs v => cs = [v] ∧ ∃ a n c, v = .slice a n c
  pos := by decide
  bpos := by decide
  one1 := fun _ => rfl
  len := fun h => by rw [h.1]; rfl
  one := fun ⟨h, a, n, c, e⟩ u hu => by rw [h] at hu; simp at hu; subst hu e; rfl
  mono := fun h _ => h
theorem teRaw : TEc Tryd.prog 27 eRaw := ⟨_, rfl, tdSW⟩
instance : BYc eRaw 24 := ⟨rfl⟩
theorem ldRaw : LDc eRaw pv := ⟨fun {M w v x} ⟨cs, ⟨h1, _⟩, h⟩ => by subst h1; exact h⟩
theorem rows_read {M M' : Mut} {w : World} {v : Value} {rows : List RowD} (h : SlOf eRaw M w v (rows.map RowD.v)) (hx : X M w M' w) (hr : ∀ r ∈ rows, RowAt w r ∧ M' r.b = none) : SlOf (eSl eWord) M' w v (rows.map RowD.ws) := by
  obtain ⟨a, cap, h1, h2, h3, h4, h5, h6⟩ := h.ex
  have hl : (rows.map RowD.v).length = (rows.map RowD.ws).length := by simp
  refine ⟨a, cap, by rw [← hl]; exact h1, by rw [← hl]; exact h2, h3, h4, by rw [← hl]; exact h5, fun ad e i hi => ?_⟩
  have hi' : i < rows.length := by simpa using hi
  obtain ⟨cs, ⟨c1, _⟩, c2⟩ := h6 ad e i (by rw [hl]; exact hi)
  have hmem : rows[i] ∈ rows := List.getElem_mem hi'
  refine ⟨cs, ⟨_, c1, ?_⟩, fun j c hc => hx.cell _ _ (c2 j c hc)⟩
  simp only [List.getElem_map]
  exact (hr _ hmem).1.sl (hr _ hmem).2
def RetO (w0 : World) (ws : List Wd) : Value → World → Prop := fun v w => Below w0.heap.size w0 w ∧ ∃ r : RowD, r.ws = ws ∧ v = r.v ∧ w0.heap.size ≤ r.b ∧ RowAt w r
structure FnO (P : Program) (g : FuncId) (Ps : List Pub) (ws : List Wd) : Prop where
  ent : Ent P g
  run : ∀ M w vs, MB M w → Lays M w → FitL M w Ps vs → CallsV P g vs w (RetO w ws)
theorem fnO_of {P : Program} {f : FuncId} {N : Nat} {fn : Func} {c : Code} {Ps : List Pub} {ws : List Wd} (he : Ent P f) (hf : P.funcs[f]? = some fn) (hb : fn.body = some c) (hN : fn.ntmps = N) (hn : Nat.ble Ps.length N = true)
    (h : ∀ M0 w0, Rt P f N M0 w0 [.code c] (argTF 0 Ps) (RetO w0 ws)) : FnO P f Ps ws := ⟨he, fun M w vs hm hl hv => by
  have hlen := hv.len
  exact callsV_of_run hf hb hN (by rw [hlen]; exact Nat.le_of_ble_eq_true hn) ((h M w).out (Rn.refl hm) (fit_args hl 0 hv))⟩
theorem c_retO {P : Program} {f : FuncId} {N : Nat} {M0 : Mut} {w0 : World} {G : TF} {k : List Item} {l : List Wd} {tag : Nat} {fn : Func} {t : Nat} (hf : P.funcs[f]? = some fn) (hr : fn.results = #[.tmp t]) (hne : l ≠ []) (hp : tlook G t = some (.go (grs eWord l tag 29)) := by rfl) :
    Rt P f N M0 w0 (.code .ret :: k) G (RetO w0 l) := ⟨fun {M w fr} hrn hfit => by
  obtain ⟨v, h1, h2, h3⟩ := hfit.out t _ hp (.inr trivial)
  rcases h3 with ⟨_, h3⟩ | h3
  · exact absurd h3 hne
  obtain ⟨g, off, cap, cur, k1, k2, k3, k4, k5, k6, k7⟩ := h3.ex
  obtain ⟨a, cap', f1, f2, f3, f4, f5, f6⟩ := h2.ex
  subst k1
  cases f1
  obtain ⟨css, c1, c2⟩ := CSS.of_elems (f6 _ rfl)
  have e4 : eWord.sz = 4 := rfl
  have hcl := c1.len
  have hcss : css = (cur.toList.drop off).take (l.length * eWord.sz) := by
    apply List.ext_getElem?
    intro j
    rcases Nat.lt_or_ge j css.length with hj | hj
    · have hcell := c2 j _ (List.getElem?_eq_getElem hj)
      rw [Addr.add_lit] at hcell
      have := hcell.1
      rw [cell_of_row w g _ cur 29 (0, 0) k3] at this
      rw [List.getElem?_eq_getElem hj, List.getElem?_take, if_pos (by rw [← hcl]; exact hj), List.getElem?_drop]
      simpa using this.symm
    · rw [List.getElem?_eq_none hj, List.getElem?_eq_none]
      simp
      omega
  refine run_ret1 hf hr h1 ⟨hrn.bel, ⟨g, off, cap, l⟩, rfl, rfl, k2, k4, k5, f5, cur.toList.take off, css, cur.toList.drop (off + l.length * eWord.sz), ?_, cssW_flat c1, ?_⟩
  · rw [List.length_take, Array.length_toList]
    exact Nat.min_eq_left (by rw [k6]; exact Nat.le_add_right _ _)
  · have : cur.toList.take off ++ css ++ cur.toList.drop (off + l.length * eWord.sz) = cur.toList := by
      rw [hcss, List.append_assoc, ← List.drop_drop, List.take_append_drop, List.take_append_drop]
    rw [this]
    simpa using k3⟩
section
variable {P : Program} {N : Nat} {G : TF} {d : Option Tmp} {ty : TypeId} {pos : String} {aft : Array Edge} {g : Option (Nat × Bool)}
theorem t_callO {f : FuncId} {args : List Operand} {argT : Array TypeId} {Ps : List Pub} {ws : List Wd} {rows : List RowD} {tag : Nat} (key : Nat) (h : FnO P f Ps ws) (ha : topPs G args = some Ps := by rfl) (hg : tlook G key = some (.gh (rowsG tag rows)) := by rfl) :
    TOp P N ⟨d, .call ⟨.value (.func f), args.toArray, argT⟩, ty, pos, aft, g⟩ G [] (.go (rowG tag ws (rows.map RowD.b))) := ⟨args, (by simp [Op.operands, Call.operands]; intro x hx; exact .inr hx), fun {M0 w0 M w fr} hr hf => by
  obtain ⟨vs, h1, h2⟩ := hf.ops ha (fun _ h => h)
  have hrows := hf.out key _ hg (.inl rfl)
  refine op_call h.ent h1 (h.run M w vs hr.mb hf.lay h2) fun v w' ⟨hb, r, e1, e2, e3, e4⟩ => ?_
  have hup : UpM M w (M.set r.b (some (0, tag))) w' := ⟨hb, fun c hc => by unfold Mut.set; rw [if_neg (by omega)], fun hm c hc => by
    have := e4.lt
    unfold Mut.set
    rw [if_neg (by omega)]
    exact hm c (Nat.le_trans hb.size hc)⟩
  refine ⟨_, StW.up hr.size hup, r, e1, e2, ⟨Nat.le_trans hr.size e3, e4, by simp [Mut.set]⟩, fun hm => ?_⟩
  obtain ⟨r', hr', e⟩ := List.mem_map.1 hm
  have := (hrows.1 r' hr').at_.lt
  omega⟩
def rawG (tag : Nat) (ws : List Wd) (avoid : List Nat) : Gh where
  tags := [tag]
  p := fun B M w v => ∃ r : RowD, r.ws = ws ∧ SlOf eRaw M w v [r.v] ∧ RowOk B M w tag r ∧ r.b ∉ avoid
  mono := fun ⟨r, h1, h2, h3, h4⟩ hs ht => ⟨r, h1, h2.mono hs.x, h3.stw hs (ht _ (by simp)), h4⟩
theorem t_bsRaw {s : Nat} {ws : List Wd} {tag : Nat} {avoid : List Nat} (hx : tlook G s = some (.go (rowG tag ws avoid)) := by rfl) : TOp Tryd.prog N ⟨d, .buildSlice 23 1 #[(0, .tmp s)], ty, pos, aft, g⟩ G [] (.go (rawG tag ws avoid)) := ⟨[.tmp s], by simp [Op.operands], fun {M0 w0 M w fr} hr hf => by
  obtain ⟨v, h1, r, e1, e2, e3, e4⟩ := hf.out s _ hx (.inr (by simp))
  refine op_buildSlice (E := eRaw) (parts := [(0, .tmp s)]) (vs := [v]) (l := [r.v]) Tryd.underlying23 teRaw.out hr rfl (by simp [opvs, opv, h1]) ⟨⟨[v], ⟨by rw [e2], _, _, _, rfl⟩, rfl⟩, trivial⟩ rfl ⟨Nat.le_of_ble_eq_true rfl, Nat.le_of_ble_eq_true rfl⟩ fun v' w' k1 _ k2 => ?_
  have hs := StW.up (M := M) hr.size (UpM.of_below k2)
  exact ⟨M, hs, r, e1, k1, e3.stw hs (by simp), e4⟩⟩
end
end Go.Proofs.YtocoinkhbjlbhaaDoor
end

section
namespace Go.Proofs.YtocoinkhbjlbhaaDoor
open Go Go.RowKit
instance : USl Tryd.prog 116 9 := ⟨Tryd.underlying116⟩
def voc : List ByteArray := [⟨#[97]⟩, ⟨#[116, 104, 101]⟩, ⟨#[99, 111, 117, 114, 116]⟩, ⟨#[119, 105, 108, 108]⟩, ⟨#[104, 101, 97, 114]⟩, ⟨#[109, 111, 116, 105, 111, 110]⟩, ⟨#[111, 102]⟩, ⟨#[112, 108, 97, 105, 110, 116, 105, 102, 102]⟩, ⟨#[77, 46, 73, 46, 84, 46]⟩, ⟨#[82, 117, 108, 101]⟩, ⟨#[49, 50, 40, 98, 41]⟩,
  ⟨#[100, 105, 115, 109, 105, 115, 115, 101, 100]⟩, ⟨#[119, 105, 116, 104]⟩, ⟨#[112, 114, 101, 106, 117, 100, 105, 99, 101]⟩, ⟨#[97, 110, 100]⟩, ⟨#[99, 111, 115, 116, 115]⟩, ⟨#[87, 87, 87, 64, 87]⟩, ⟨#[105, 116]⟩, ⟨#[105, 115]⟩, ⟨#[115, 111]⟩, ⟨#[111, 114, 100, 101, 114, 101, 100, 46]⟩,
  ⟨#[97, 98, 99, 100, 101, 102, 103, 104, 105, 106, 107, 108, 109, 110, 111, 112, 113, 114, 115, 116, 117, 118, 119, 120, 121, 122, 97, 98, 99, 100, 101, 102, 103, 104, 105, 106, 107, 108, 109, 110]⟩]
def keysV : List ByteArray := [⟨#[99, 111, 115, 116, 115]⟩, ⟨#[109, 111, 116, 105, 111, 110]⟩, ⟨#[82, 117, 108, 101]⟩, ⟨#[115, 109, 105, 116, 104]⟩]
def wdM (n : Int) : Wd :=
  if (n.tdiv 22).tmod 6 = 0 then ⟨(voc[(n.tmod 22).toNat]?).getD emp, (keysV[((n.tdiv 132).tmod 4).toNat]?).getD emp, (n.tdiv 528).tmod 2, 0⟩ else ⟨(voc[(n.tmod 22).toNat]?).getD emp, emp, 0, 0⟩
theorem voc_ok : ∀ s ∈ voc, 0 < widM s := by decide +kernel
theorem keys_ok : ∀ s ∈ keysV, 0 < widM s := by decide +kernel
structure OKWd (w : Wd) : Prop where
  s : 0 < widM w.s
  key : w.key = emp ∨ 0 < widM w.key
  table : w.table = 0 ∨ w.table = 1
theorem tmod_rng' {n k : Int} (h : 0 ≤ n) (hk : 0 < k) : 0 ≤ n.tmod k ∧ n.tmod k < k := ⟨Int.tmod_nonneg k h, Int.tmod_lt_of_pos _ hk⟩
theorem tdiv_nn {n k : Int} (h : 0 ≤ n) (hk : 0 < k) : 0 ≤ n.tdiv k := Int.tdiv_nonneg h (Int.le_of_lt hk)
theorem wdM_ok {n : Int} (h : 0 ≤ n) : OKWd (wdM n) ∧ (wdM n).note = 0 := by
  have hv : voc.length = 22 := rfl
  have hk : keysV.length = 4 := rfl
  have h1 := tmod_rng' (k := 22) h (by omega)
  have h2 := tmod_rng' (k := 4) (tdiv_nn (k := 132) h (by omega)) (by omega)
  have h3 := tmod_rng' (k := 2) (tdiv_nn (k := 528) h (by omega)) (by omega)
  have e1 : (voc[(n.tmod 22).toNat]?).getD emp = voc[(n.tmod 22).toNat]'(by omega) := by rw [List.getElem?_eq_getElem (by omega)]; rfl
  have e2 : (keysV[((n.tdiv 132).tmod 4).toNat]?).getD emp = keysV[((n.tdiv 132).tmod 4).toNat]'(by omega) := by rw [List.getElem?_eq_getElem (by omega)]; rfl
  unfold wdM
  rw [e1, e2]
  split
  · exact ⟨⟨voc_ok _ (List.getElem_mem _), .inr (keys_ok _ (List.getElem_mem _)), by dsimp only; omega⟩, rfl⟩
  · exact ⟨⟨voc_ok _ (List.getElem_mem _), .inl rfl, .inl rfl⟩, rfl⟩
theorem sbW : SB Tryd.prog 29 [(0, 1), (1, 1), (2, 1), (3, 1)] [.string ⟨#[]⟩, .string ⟨#[]⟩, .int .i64 0, .int .i64 0] :=
  ⟨⟨_, Tryd.underlying29, fun w => by kernel_rfl⟩, ⟨.agg #[.string ⟨#[]⟩, .string ⟨#[]⟩, .int .i64 0, .int .i64 0], fun w => ⟨by kernel_rfl, rfl⟩⟩⟩
theorem wordZ (M : Mut) (w : World) : eWord.R M w [.string ⟨#[]⟩, .string ⟨#[]⟩, .int .i64 0, .int .i64 0] ⟨emp, emp, 0, 0⟩ :=
  ⟨[.string ⟨#[]⟩, .string ⟨#[]⟩], [.int .i64 0, .int .i64 0], rfl, ⟨[.string ⟨#[]⟩], [.string ⟨#[]⟩], rfl, ⟨rfl, by decide⟩, ⟨rfl, by decide⟩⟩, ⟨[.int .i64 0], [.int .i64 0], rfl, ⟨rfl, (fun _ => show I64 0 by unfold I64; omega), (fun e => by cases e)⟩, ⟨rfl, (fun _ => show I64 0 by unfold I64; omega), (fun e => by cases e)⟩⟩⟩
instance : ZEc Tryd.prog 29 eWord ⟨emp, emp, 0, 0⟩ := ⟨_, tdW, wordZ⟩
theorem bl_word1 {s : ByteArray} : BLc Tryd.prog 29 [0] [pS s] eWord ⟨s, emp, 0, 0⟩ := blc sbW rfl wordZ (bls_cons w0l inferInstance rfl bls_nil)
theorem t_stF' {α β : Type} {E : Enc α} {E' : Enc β} {P : Program} {N : Nat} {G : TF} {d : Option Tmp} {ty : TypeId} {pos : String} {aft : Array Edge} {g : Option (Nat × Bool)} {x y : Operand} {b tag i off : Nat} {l : List α} {s t e : TypeId} {fd : Nat} {pr : α → β} {st : α → β → α} {p : Pub} {y' : β} (key : Nat) (hoff : FD P s fd off) (hF : FDc P s fd E E' pr st)
    (hx : topP G x = some (pRf b E i off) := by rfl) (hg : tlook G key = some (.rw b tag E l e) := by rfl) (hy : topP G y = some p := by rfl)
    (hp : PEc p E' y' := by infer_instance) (hE : TEc P t E' := by infer_instance) {x0 : α} (hi : l[i]? = some x0) :
    TOp P N ⟨d, .store t x y, ty, pos, aft, g⟩ G [tag] (.rw b tag E (l.set i (st x0 y')) e) := by
  obtain ⟨hlt, rfl⟩ := List.getElem?_eq_some_iff.1 hi
  exact t_stF key hF hoff hx hg hy hp hE hlt
set_option maxHeartbeats 2000000 in
theorem one_f {n : Int} (h : 0 ≤ n) : Fn Tryd.prog 52 [pI n] (pV eWord (wdM n)) := by
  have hv : voc.length = 22 := rfl
  have hk : keysV.length = 4 := rfl
  have h1 := tmod_rng' (k := 22) h (by omega)
  have h2 := tmod_rng' (k := 4) (tdiv_nn (k := 132) h (by omega)) (by omega)
  have h3 := tmod_rng' (k := 2) (tdiv_nn (k := 528) h (by omega)) (by omega)
  have e1 : (voc[(n.tmod 22).toNat]?).getD emp = voc[(n.tmod 22).toNat]'(by omega) := by rw [List.getElem?_eq_getElem (by omega)]; rfl
  have e2 : (keysV[((n.tdiv 132).tmod 4).toNat]?).getD emp = keysV[((n.tdiv 132).tmod 4).toNat]'(by omega) := by rw [List.getElem?_eq_getElem (by omega)]; rfl
  have hlt1 : (n.tmod 22).toNat < voc.length := by omega
  have hlt2 : ((n.tdiv 132).tmod 4).toNat < keysV.length := by omega
  refine fn_of ent52 Tryd.func52 rfl Tryd.ntmps52 rfl fun M0 w0 => ?_
  (repeat (first | refine c_seq ?_ | fail))
  refine c_reg ?_
  refine c_alloc (E := eWord) 1 100 fun b0 => ?_
  (repeat (first | refine c_seq ?_ | refine c_reg ?_ | refine c_rnil ?_ | refine (c_alloc (E := eWord) 2 101) ?_ | refine c_op (by first | exact (t_bs (l := voc) (E := eStr)) | exact (t_idx (hn := hlt1)) | exact (t_bl (hB := bl_word1)) | exact t_move | exact t_assign | exact t_load | exact t_rem | fail) ?_ | fail))
  intro b1
  by_cases hz : (n.tdiv 22).tmod 6 = 0
  · unfold wdM
    rw [if_pos hz, e1, e2]
    (repeat (first | refine c_seq ?_ | refine c_reg ?_ | refine c_rnil ?_ | refine c_true ?_ | refine (c_st 101 (t_st 101 (hi := by simp))) ?_ | refine c_op (by first | exact (t_bs (l := keysV) (E := eStr)) | exact (t_idx (hn := hlt2)) | exact (t_faR) | exact t_move | exact t_eqlT | exact t_load | exact t_quo | exact t_rem | fail) ?_ | fail))
    refine r_ex 22 fun o1 => r_and 22 (fun ho1 => ?_)
    refine c_st 101 (t_stF' (E' := eStr) (hF := inferInstance) 101 ho1 (hi := rfl)) ?_
    (repeat (first | refine c_reg ?_ | refine c_rnil ?_ | refine c_op (by first | exact (t_faR) | exact t_move | exact t_quo | exact t_rem | fail) ?_ | fail))
    refine r_ex 26 fun o2 => r_and 26 (fun ho2 => ?_)
    refine c_st 101 (t_stF' (E' := eI) (hF := inferInstance) 101 ho2 (hi := rfl)) ?_
    (repeat (first | refine c_seq ?_ | refine c_reg ?_ | refine c_rnil ?_ | refine (c_st 100 (t_st 100 (hi := by simp))) ?_ | refine c_op (by first | exact (t_loadRE 101 (hv := rfl)) | fail) ?_ | fail))
    exact c_retC Tryd.func52 rfl 100 (fun h => h)
  · unfold wdM
    rw [if_neg hz, e1]
    (repeat (first | refine c_seq ?_ | refine c_reg ?_ | refine c_rnil ?_ | refine c_skip ?_ | refine c_false ?_ | refine (c_st 101 (t_st 101 (hi := by simp))) ?_ | refine c_op (by first | exact t_move | exact t_eqlF | exact t_quo | exact t_rem | fail) ?_ | fail))
    (repeat (first | refine c_rnil ?_ | refine (c_st 100 (t_st 100 (hi := by simp))) ?_ | refine c_op (by first | exact (t_loadRE 101 (hv := rfl)) | fail) ?_ | fail))
    exact c_retC Tryd.func52 rfl 100 (fun h => h)
def lcg (x : Int) : Int := IntKind.u32.wrap (IntKind.u32.wrap (x * 1664525) + 1013904223)
theorem lcg_rng (x : Int) : 0 ≤ lcg x ∧ lcg x < 4294967296 := by
  unfold lcg
  rw [IntKind.wrap_u32]
  omega
def partGo : Nat → Int → List Wd
  | 0, _ => []
  | k + 1, x => wdM (lcg x / 2 ^ 8) :: partGo k (lcg x)
def partM (n most : Int) : List Wd := partGo (1 + n.tmod most).toNat (orK .u32 (IntKind.u32.wrap n) 1)
theorem partGo_len : ∀ (k : Nat) (x : Int), (partGo k x).length = k
  | 0, _ => rfl
  | k + 1, x => by rw [partGo, List.length_cons, partGo_len k]
theorem partGo_ok : ∀ (k : Nat) (x : Int), ∀ w ∈ partGo k x, OKWd w ∧ w.note = 0
  | 0, _, w, h => by cases h
  | k + 1, x, w, h => by
    have := lcg_rng x
    rcases List.mem_cons.1 h with rfl | h
    · exact wdM_ok (by omega)
    · exact partGo_ok k _ w h
set_option maxHeartbeats 2000000 in
theorem part_f {n most : Int} (hn : 0 ≤ n) (hm : 1 ≤ most ∧ most ≤ 1000) : FnO Tryd.prog 28 [pI n, pI most] (partM n most) := by
  have h1 := tmod_rng' (k := most) hn (by omega)
  obtain ⟨K, hK⟩ : ∃ K : Nat, K = (1 + n.tmod most).toNat := ⟨_, rfl⟩
  refine fnO_of ent28 Tryd.func28 rfl Tryd.ntmps28 rfl fun M0 w0 => ?_
  (repeat (first | refine c_seq ?_ | refine c_reg ?_ | refine c_rnil ?_ | refine c_block ?_ | refine c_op (by first | exact (t_cvK) | exact (t_orK) | exact t_move | exact t_assign | fail) ?_ | fail))
  refine c_loop (fun x : Nat × Int × List Wd => [(0, .pu (pI n)), (1, .pu (pI most)), (5, .pu (pK .u32 x.2.1)), (6, .go (grs eWord x.2.2 1 29)), (7, .pu (pI x.1))])
    (fun x => x.1 ≤ K ∧ x.2.2.length = x.1 ∧ x.2.2 ++ partGo (K - x.1) x.2.1 = partM n most) (fun x => K - x.1) (0, orK .u32 (IntKind.u32.wrap n) 1, []) ⟨by simp, rfl, by unfold partM; rw [← hK]; rfl⟩ (by repeat (first | exact trivial | refine ⟨has_rfl rfl, ?_⟩ | refine ⟨has_nilGo rfl, ?_⟩ | fail)) ?_
  rintro ⟨i, x, L⟩ ⟨hi, hL, hLs⟩ ih
  dsimp only at hi hL hLs ih ⊢
  by_cases hlt : i < K
  · rw [show K - i = (K - (i + 1)) + 1 by omega] at hLs
    simp only [partGo] at hLs
    have hr := lcg_rng x
    have hcv : IntKind.i64.wrap (lcg x / 2 ^ 8) = lcg x / 2 ^ 8 := IntWalk.i64_in _ (by omega)
    unfold lcg at hcv
    (repeat (first | refine c_seq ?_ | refine c_reg ?_ | refine c_rnil ?_ | refine c_block ?_ | refine c_inBlock ?_ | refine c_skip ?_ | refine c_true ?_ | refine c_op (by first | exact (t_mulK (k := .u32)) | exact (t_addK (k := .u32)) | exact (t_shrU32 (s := 8)) | exact (t_cvS hcv) | exact t_call (h := (one_f (by unfold lcg at hr; omega))) | exact t_move | exact t_assign | exact t_add | exact t_lssT | exact t_bs | exact t_rem | exact t_moveGo | exact t_assignGo) ?_ | refine c_opW t_appS ?_))
    refine (ih (i + 1, lcg x, L ++ [wdM (lcg x / 2 ^ 8)]) ⟨by dsimp only; omega, by dsimp only; simp [hL], ?_⟩ (by dsimp only; omega)).sub (by repeat (first | exact trivial | refine ⟨has_rfl rfl, ?_⟩ | fail))
    dsimp only
    rw [← hLs, List.append_assoc]
    rfl
  · rw [show K - i = 0 by omega] at hLs
    simp only [partGo, List.append_nil] at hLs
    rw [← hLs]
    (repeat (first | refine c_seq ?_ | refine c_reg ?_ | refine c_rnil ?_ | refine c_exit ?_ | refine c_false ?_ | refine c_op (by first | exact t_move | exact t_add | exact t_lssF | exact t_rem | exact t_moveGo | exact t_assignGo) ?_ | fail))
    refine c_retO Tryd.func28 rfl (fun e => ?_)
    rw [e] at hL
    simp at hL
    omega
end Go.Proofs.YtocoinkhbjlbhaaDoor
end

section
namespace Go.Proofs.YtocoinkhbjlbhaaDoor
open Go Go.RowKit
def RowD.put (r : RowD) (n : Nat) (x : Wd) : RowD := { r with ws := r.ws.set n x }
structure WdAt (w : World) (b o : Nat) (x : Wd) : Prop where
  c0 : w.cell? ⟨b, o, none⟩ = some (.string x.s)
  c1 : w.cell? ⟨b, o + 1, none⟩ = some (.string x.key)
  c2 : w.cell? ⟨b, o + 2, none⟩ = some (.int .i64 x.table)
  c3 : w.cell? ⟨b, o + 3, none⟩ = some (.int .i64 x.note)
  s0 : x.s.size ≤ 140737488351232
  s1 : x.key.size ≤ 140737488351232
  i2 : I64 x.table
  i3 : I64 x.note
theorem wordR_cells {M : Mut} {w : World} {cs : List Value} {x : Wd} (h : eWord.R M w cs x) : cs = [.string x.s, .string x.key, .int .i64 x.table, .int .i64 x.note] ∧ x.s.size ≤ 140737488351232 ∧ x.key.size ≤ 140737488351232 ∧ I64 x.table ∧ I64 x.note := by
  obtain ⟨a, b, rfl, ⟨a1, a2, rfl, ⟨rfl, q1⟩, ⟨rfl, q2⟩⟩, ⟨b1, b2, rfl, ⟨rfl, q3, _⟩, ⟨rfl, q4, _⟩⟩⟩ := h
  exact ⟨rfl, q1, q2, q3 rfl, q4 rfl⟩
theorem RowAt.word {w : World} {r : RowD} (h : RowAt w r) {n : Nat} (hn : n < r.ws.length) : WdAt w r.b (r.off + n * 4) r.ws[n] := by
  obtain ⟨pre, css, rest, h1, h2, h3⟩ := h.ex
  obtain ⟨cs, c1, c2⟩ := h2.get n hn
  obtain ⟨rfl, q1, q2, q3, q4⟩ := wordR_cells c1
  have e4 : eWord.sz = 4 := rfl
  have hcl := h2.len
  rw [e4] at hcl
  have key : ∀ j v, [Value.string r.ws[n].s, .string r.ws[n].key, .int .i64 r.ws[n].table, .int .i64 r.ws[n].note][j]? = some v → w.cell? ⟨r.b, r.off + n * 4 + j, none⟩ = some v := fun j v hj => by
    have hc := c2 j v hj
    rw [e4] at hc
    rw [cell_of_row w r.b _ _ _ (0, 0) h3]
    have hlt : n * 4 + j < css.length := (List.getElem?_eq_some_iff.1 hc).1
    have e : (pre ++ css ++ rest).toArray[r.off + n * 4 + j]? = css[n * 4 + j]? := by
      rw [List.getElem?_toArray, List.append_assoc, List.getElem?_append_right (by omega), List.getElem?_append_left (by omega)]
      congr 1
      omega
    rw [e]
    exact hc
  exact ⟨key 0 _ rfl, key 1 _ rfl, key 2 _ rfl, key 3 _ rfl, q1, q2, q3, q4⟩
section
variable {N : Nat} {fr : Fr} {w : World} {Ψ : Value → World → Prop} {d : Option Tmp} {ty : TypeId} {pos : String} {aft : Array Edge} {g : Option (Nat × Bool)}
theorem op_idxRow {r : RowD} {x i : Operand} {k : IntKind} {n : Int} (hx : opv fr x = some r.v) (hi : opv fr i = some (.int k n)) (h0 : 0 ≤ n ∧ n < r.ws.length) (h : Ψ (.pointer (some ⟨r.b, r.off + n.toNat * 4, none⟩)) w) :
    OP Tryd.prog N ⟨d, .indexAddr 27 x i, ty, pos, aft, g⟩ fr w Ψ := by
  refine OP.val (v := .pointer (some ⟨r.b, r.off + n.toNat * 4, none⟩)) (w' := w) (fun a ha => ?_) h
  have ht : Tryd.prog.underlying 27 = some (.slice 29) := Tryd.underlying27
  have hel : Tryd.prog.elem 27 = 29 := by simp [Program.elem, ht]
  have hr := run_indexAt_slice (P := Tryd.prog) w 27 ⟨r.b, r.off, none⟩ r.ws.length r.cap k n (by rw [hel]; exact ht)
  rw [hel, if_pos h0] at hr
  simp only [execOp, ha.eval hx, ha.eval hi, RowD.v]
  simp [hr, tdW.run_sizeOf (w := w), Addr.add_lit]
theorem op_ld1 {t by' : Nat} {z : List Value} {x : Operand} {b o : Nat} {v : Value} (hT : TD Tryd.prog t 1 by' false z) (hx : opv fr x = some (.pointer (some ⟨b, o, none⟩))) (hc : w.cell? ⟨b, o, none⟩ = some v) (h : Ψ v w) :
    OP Tryd.prog N ⟨d, .load t x, ty, pos, aft, g⟩ fr w Ψ :=
  OP.val (v := v) (w' := w) (fun a ha => by simp [execOp, ha.eval hx, Instr.loadAt, Instr.sureAddr, loadVar, hT.run_isAgg (w := w), hc]) h
theorem op_stRow {B tag t by' f : Nat} {z : List Value} {M : Mut} {x y : Operand} {r : RowD} {n : Nat} {u : Value} {x' : Wd} (hT : TD Tryd.prog t 1 by' false z) (hx : opv fr x = some (.pointer (some ⟨r.b, r.off + n * 4 + f, none⟩))) (hy : opv fr y = some u) (hu : u.oneCell' = true)
    (hn : n < r.ws.length) (hok : RowOk B M w tag r) (hf : f < 4) (hx' : ∀ cs, eWord.R (fun _ => none) w cs r.ws[n] → eWord.R (fun _ => none) w (splice cs f [u]) x')
    (h : ∀ w', RowOk B M w' tag (r.put n x') → St B (some tag) M w M w' → (∀ b, b ≠ r.b → w'.heap[b]? = w.heap[b]?) → Ψ undef w') :
    OP Tryd.prog N ⟨d, .store t x y, ty, pos, aft, g⟩ fr w Ψ := by
  obtain ⟨pre, css, rest, h1, h2, h3⟩ := hok.at_.ex
  have e4 : eWord.sz = 4 := rfl
  have hcl := h2.len
  rw [e4] at hcl
  have hle : r.off + n * 4 + f + 1 ≤ (pre ++ css ++ rest).length := by
    simp only [List.length_append]
    have : n * 4 + 4 ≤ css.length := by rw [hcl]; omega
    omega
  have hst := run_storeCells_at Tryd.prog r.b (r.off + n * 4 + f) 29 [u] 0 (pre ++ css ++ rest).toArray w h3 (by simpa using hle) (fun v hv => by rw [List.mem_singleton.1 hv]; exact hu)
  simp only [Nat.add_zero] at hst
  have hM : M = M.set r.b (some (0, tag)) := by
    funext k
    unfold Mut.set
    split
    · rename_i hk; subst hk; exact hok.mark
    · rfl
  have hlt := hok.at_.lt
  have hsp : splice (pre ++ css ++ rest) (r.off + n * 4 + f) [u] = pre ++ splice css (n * eWord.sz + f) [u] ++ rest := by
    rw [splice_left (a := pre ++ css) (b := rest) (by simp only [List.length_append, List.length_singleton]; omega), show r.off + n * 4 + f = pre.length + (n * eWord.sz + f) by rw [e4]; omega, splice_right]
  refine OP.skip (w' := w.setRow r.b (splice (pre ++ css ++ rest) (r.off + n * 4 + f) [u]).toArray) (fun a ha => ?_) (h _ ⟨hok.ge, ⟨?_, hok.at_.cap, ?_, pre, _, rest, h1, cssW_flat (h2.update n hn f [u] x' hx' (by rw [e4]; simp only [List.length_singleton]; omega)), ?_⟩, hok.mark⟩ ?_ (fun b hb => setRow_other w r.b b _ hb))
  · have hcs : u.cells = [u].toArray := by rw [cells_of_one hu]
    simp only [execOp, ha.eval hx, ha.eval hy, Instr.storeAt, Instr.sureAddr, storeVar]
    simp [hT.run_sizeOf (w := w), hcs, hst, splice]
  · have := hok.at_.len
    unfold RowD.put
    simpa using this
  · have := hok.at_.by_
    unfold RowD.put
    simpa using this
  · rw [← hsp]
    exact setRow_heap w r.b _ _ _ _ h3
  · have := St.write (M := M) (w := w) (w' := w.setRow r.b (splice (pre ++ css ++ rest) (r.off + n * 4 + f) [u]).toArray) (k := 0) (k' := 0) hok.ge hlt hok.mark rfl (Nat.le_refl _) rfl rfl rfl (by simp [World.setRow]) (fun k hk => setRow_other w r.b k _ hk) (fun off ho => by omega)
    rwa [← hM] at this
end
end Go.Proofs.YtocoinkhbjlbhaaDoor
end

section
namespace Go.Proofs.YtocoinkhbjlbhaaDoor
open Go Go.RowKit
set_option maxHeartbeats 2000000 in
theorem word_f {w : Wd} {next n : Int} : Fn Tryd.prog 58 [pV eWord w, pI next, pI n] (pI (wErr w next n)) := by
  refine fn_of ent58 Tryd.func58 rfl Tryd.ntmps58 rfl fun M0 w0 => ?_
  by_cases h1 : 0 < widM w.s
  · by_cases hbad : w.key ≠ emp ∧ ¬ 0 < widM w.key
    · obtain ⟨h2, h3⟩ := hbad
      rw [show wErr w next n = 7 by unfold wErr; rw [if_pos (.inr ⟨h2, h3⟩)]]
      (repeat (first | refine c_seq ?_ | refine c_reg ?_ | refine c_rnil ?_ | refine c_true ?_ | refine c_yes ?_ | refine c_op (by first | exact t_call (h := (validR_y h1)) | exact t_call (h := (validR_n h3)) | exact ((t_neqStr).yes (by exact h2)) | exact t_move | exact t_assign | exact t_pickT | exact t_pickF | exact t_not | exact t_load | exact t_fa | exact t_boxP | fail) ?_ | fail))
      refine c_ret1 Tryd.func58 rfl ?_
      exact fun h => h
    · rw [show wErr w next n = if w.table ≠ 0 ∧ w.table ≠ 1 then 5 else if w.note ≠ 0 ∧ (w.note ≠ next ∨ n < w.note) then 5 else 0 by unfold wErr; rw [if_neg (fun h => h.elim (fun h => h h1) hbad)]]
      (repeat (first | refine c_seq ?_ | fail))
      refine c_reg ?_
      (repeat (first | refine c_seq ?_ | refine c_rnil ?_ | refine c_op (by first | exact t_assign | exact t_boxP | fail) ?_ | fail))
      apply c_join [(1, .pu (pI next)), (2, .pu (pI n)), (3, .pu (pPtr eWord w))]
      · intro meet
        by_cases h2 : w.key = emp
        · (repeat (first | refine c_seq ?_ | fail))
          refine c_reg ?_
          (repeat (first | refine c_seq ?_ | refine c_rnil ?_ | refine c_skip ?_ | refine c_false ?_ | refine c_yes ?_ | refine c_no ?_ | refine c_op (by first | exact t_call (h := (validR_y h1)) | exact ((t_neqStr).no (by exact fun h => h h2)) | exact t_move | exact t_pickF | exact t_not | exact t_load | exact t_fa | fail) ?_ | fail))
          exact meet (by repeat (first | exact trivial | refine ⟨has_rfl rfl, ?_⟩ | fail))
        · have h3 : 0 < widM w.key := Classical.byContradiction fun h => hbad ⟨h2, h⟩
          (repeat (first | refine c_seq ?_ | fail))
          refine c_reg ?_
          (repeat (first | refine c_seq ?_ | refine c_rnil ?_ | refine c_skip ?_ | refine c_false ?_ | refine c_yes ?_ | refine c_op (by first | exact t_call (h := (validR_y h1)) | exact t_call (h := (validR_y h3)) | exact ((t_neqStr).yes (by exact h2)) | exact t_move | exact t_pickT | exact t_pickF | exact t_not | exact t_load | exact t_fa | fail) ?_ | fail))
          exact meet (by repeat (first | exact trivial | refine ⟨has_rfl rfl, ?_⟩ | fail))
      by_cases hbad2 : w.table ≠ 0 ∧ w.table ≠ 1
      · rw [if_pos hbad2]
        obtain ⟨h2, h3⟩ := hbad2
        (repeat (first | refine c_seq ?_ | refine c_reg ?_ | refine c_rnil ?_ | refine c_true ?_ | refine c_yes ?_ | refine c_op (by first | exact t_move | exact t_assign | exact t_pickT | exact t_neqT | exact t_load | exact t_fa | fail) ?_ | fail))
        refine c_ret1 Tryd.func58 rfl ?_
        exact fun h => h
      rw [if_neg hbad2]
      apply c_join [(1, .pu (pI next)), (2, .pu (pI n)), (3, .pu (pPtr eWord w))]
      · intro meet
        by_cases h2 : w.table = 0
        · (repeat (first | refine c_seq ?_ | fail))
          refine c_reg ?_
          (repeat (first | refine c_seq ?_ | refine c_rnil ?_ | refine c_skip ?_ | refine c_false ?_ | refine c_no ?_ | refine c_op (by first | exact t_move | exact t_pickF | exact t_neqF | exact t_load | exact t_fa | fail) ?_ | fail))
          exact meet (by repeat (first | exact trivial | refine ⟨has_rfl rfl, ?_⟩ | fail))
        · have h3 : w.table = 1 := Classical.byContradiction fun h => hbad2 ⟨h2, h⟩
          (repeat (first | refine c_seq ?_ | fail))
          refine c_reg ?_
          (repeat (first | refine c_seq ?_ | refine c_rnil ?_ | refine c_skip ?_ | refine c_false ?_ | refine c_yes ?_ | refine c_op (by first | exact t_move | exact t_pickT | exact t_neqT | exact t_neqF | exact t_load | exact t_fa | fail) ?_ | fail))
          exact meet (by repeat (first | exact trivial | refine ⟨has_rfl rfl, ?_⟩ | fail))
      by_cases h5 : w.note = 0
      · rw [if_neg (fun h => h.1 h5)]
        (repeat (first | refine c_seq ?_ | refine c_reg ?_ | refine c_rnil ?_ | refine c_skip ?_ | refine c_false ?_ | refine c_no ?_ | refine c_noU ?_ | refine c_op (by first | exact t_move | exact t_assign | exact t_pickF | exact t_neqF | exact t_load | exact t_fa | fail) ?_ | fail))
        refine c_ret1 Tryd.func58 rfl ?_
        exact fun h => h
      by_cases h6 : w.note = next
      · by_cases h7 : n < w.note
        · rw [if_pos ⟨h5, .inr h7⟩]
          (repeat (first | refine c_seq ?_ | refine c_reg ?_ | refine c_rnil ?_ | refine c_true ?_ | refine c_yes ?_ | refine c_op (by first | exact t_move | exact t_assign | exact t_pickT | exact t_pickF | exact t_gtrT | exact t_neqT | exact t_neqF | exact t_load | exact t_fa | fail) ?_ | fail))
          refine c_ret1 Tryd.func58 rfl ?_
          exact fun h => h
        · rw [if_neg (fun h => h.2.elim (fun h => h h6) h7)]
          (repeat (first | refine c_seq ?_ | refine c_reg ?_ | refine c_rnil ?_ | refine c_skip ?_ | refine c_false ?_ | refine c_yes ?_ | refine c_op (by first | exact t_move | exact t_assign | exact t_pickT | exact t_pickF | exact t_gtrF | exact t_neqT | exact t_neqF | exact t_load | exact t_fa | fail) ?_ | fail))
          refine c_ret1 Tryd.func58 rfl ?_
          exact fun h => h
      · rw [if_pos ⟨h5, .inl h6⟩]
        (repeat (first | refine c_seq ?_ | refine c_reg ?_ | refine c_rnil ?_ | refine c_true ?_ | refine c_yes ?_ | refine c_no ?_ | refine c_op (by first | exact t_move | exact t_assign | exact t_pickT | exact t_neqT | exact t_load | exact t_fa | fail) ?_ | fail))
        refine c_ret1 Tryd.func58 rfl ?_
        exact fun h => h
  · rw [show wErr w next n = 7 by unfold wErr; rw [if_pos (.inl h1)]]
    (repeat (first | refine c_seq ?_ | refine c_reg ?_ | refine c_rnil ?_ | refine c_true ?_ | refine c_no ?_ | refine c_noU ?_ | refine c_op (by first | exact t_call (h := (validR_n h1)) | exact t_move | exact t_assign | exact t_pickT | exact t_not | exact t_load | exact t_fa | exact t_boxP | fail) ?_ | fail))
    refine c_ret1 Tryd.func58 rfl ?_
    exact fun h => h
theorem any_drop {α : Type} {q : α → Bool} {l : List α} {i : Nat} (h : i < l.length) : (l.drop i).any q = (q l[i] || (l.drop (i + 1)).any q) := by
  rw [List.drop_eq_getElem_cons h, List.any_cons]
theorem any_end {α : Type} {q : α → Bool} {l : List α} {i : Nat} (h : l.length ≤ i) : (l.drop i).any q = false := by
  rw [List.drop_of_length_le h]; rfl
set_option maxHeartbeats 2000000 in
theorem sizes_f {t : Tx} : Fn Tryd.prog 57 [pV eText t] (pI (sizeM t)) := by
  refine fn_of ent57 Tryd.func57 rfl Tryd.ntmps57 rfl fun M0 w0 => ?_
  by_cases h1 : 100 < t.paras.length
  · rw [show sizeM t = 2 by unfold sizeM; rw [if_pos (.inl h1)]]
    (repeat (first | refine c_seq ?_ | refine c_reg ?_ | refine c_rnil ?_ | refine c_true ?_ | refine c_no ?_ | refine c_op (by first | exact t_move | exact t_assign | exact t_pickT | exact t_gtrT | exact t_len | exact t_load | exact t_fa | exact t_boxP | fail) ?_ | fail))
    refine c_ret1 Tryd.func57 rfl ?_
    exact fun h => h
  by_cases h2 : 100 < t.notes.length
  · rw [show sizeM t = 2 by unfold sizeM; rw [if_pos (.inr h2)]]
    (repeat (first | refine c_seq ?_ | refine c_reg ?_ | refine c_rnil ?_ | refine c_true ?_ | refine c_yes ?_ | refine c_op (by first | exact t_move | exact t_assign | exact t_pickF | exact t_gtrT | exact t_gtrF | exact t_len | exact t_load | exact t_fa | exact t_boxP | fail) ?_ | fail))
    refine c_ret1 Tryd.func57 rfl ?_
    exact fun h => h
  have hall : (t.paras ++ t.notes).length = t.paras.length + t.notes.length := List.length_append
  rw [show sizeM t = if longP (t.paras ++ t.notes) = true then 2 else if noneP (t.paras ++ t.notes) = true then 1 else 0 by unfold sizeM; rw [if_neg (by omega)]]
  (repeat (first | refine c_seq ?_ | refine c_reg ?_ | refine c_rnil ?_ | refine c_block ?_ | refine c_skip ?_ | refine c_false ?_ | refine c_yes ?_ | refine (c_opW (t_appN 1)) ?_ | refine c_op (by first | exact t_moveG | exact t_move | exact t_assignG | exact t_assign | exact t_pickF | exact t_gtrF | exact t_len | exact t_load | exact t_fa | exact t_boxP | fail) ?_ | refine c_opW t_app ?_ | fail))
  refine c_loop (fun i : Nat => [(1, .pu (pPtr eText t)), (3, .gr (eSl eWord) (t.paras ++ t.notes) 1 27), (4, .pu (pI i))])
    (fun i => i ≤ (t.paras ++ t.notes).length ∧ longP (t.paras ++ t.notes) = ((t.paras ++ t.notes).drop i).any fun p => decide (500 < p.length)) (fun i => (t.paras ++ t.notes).length - i) 0 ⟨by omega, rfl⟩ (by repeat (first | exact trivial | refine ⟨has_rfl rfl, ?_⟩ | fail)) fun i ⟨hi, hq⟩ ih => ?_
  by_cases hlt : i < (t.paras ++ t.notes).length
  · rw [any_drop hlt] at hq
    by_cases hL : 500 < (t.paras ++ t.notes)[i].length
    · rw [if_pos (by rw [hq, decide_eq_true hL, Bool.true_or])]
      (repeat (first | refine c_seq ?_ | refine c_reg ?_ | refine c_rnil ?_ | refine c_block ?_ | refine c_skip ?_ | refine c_true ?_ | refine c_op (by first | exact t_moveG | exact t_move | exact t_assign | exact t_lssT | exact t_gtrT | exact t_len | exact t_idxN | exact t_load | fail) ?_ | fail))
      refine c_ret1 Tryd.func57 rfl ?_
      exact fun h => h
    · rw [decide_eq_false hL, Bool.false_or] at hq
      (repeat (first | refine c_seq ?_ | refine c_reg ?_ | refine c_rnil ?_ | refine c_block ?_ | refine c_inBlock ?_ | refine c_skip ?_ | refine c_true ?_ | refine c_false ?_ | refine c_op (by first | exact t_moveG | exact t_move | exact t_assign | exact t_add | exact t_lssT | exact t_gtrF | exact t_len | exact t_idxN | exact t_load | fail) ?_ | fail))
      exact (ih (i + 1) ⟨by omega, hq⟩ (by omega)).sub (by repeat (first | exact trivial | refine ⟨has_rfl rfl, ?_⟩ | fail))
  · rw [any_end (by omega)] at hq
    rw [if_neg (by rw [hq]; simp)]
    (repeat (first | refine c_seq ?_ | refine c_reg ?_ | refine c_rnil ?_ | refine c_block ?_ | refine c_exit ?_ | refine c_false ?_ | refine c_op (by first | exact t_moveG | exact t_move | exact t_assign | exact t_lssF | exact t_len | fail) ?_ | fail))
    refine c_loop (fun i : Nat => [(1, .pu (pPtr eText t)), (3, .gr (eSl eWord) (t.paras ++ t.notes) 1 27), (5, .pu (pI i))])
      (fun i => i ≤ (t.paras ++ t.notes).length ∧ noneP (t.paras ++ t.notes) = ((t.paras ++ t.notes).drop i).any fun p => decide (p.length = 0)) (fun i => (t.paras ++ t.notes).length - i) 0 ⟨by omega, rfl⟩ (by repeat (first | exact trivial | refine ⟨has_rfl rfl, ?_⟩ | fail)) fun i ⟨hi, hq⟩ ih => ?_
    by_cases hlt : i < (t.paras ++ t.notes).length
    · rw [any_drop hlt] at hq
      by_cases hL : (t.paras ++ t.notes)[i].length = 0
      · rw [if_pos (by rw [hq, decide_eq_true hL, Bool.true_or])]
        (repeat (first | refine c_seq ?_ | refine c_reg ?_ | refine c_rnil ?_ | refine c_block ?_ | refine c_skip ?_ | refine c_true ?_ | refine c_op (by first | exact t_moveG | exact t_move | exact t_assign | exact t_lssT | exact t_eqlT | exact t_len | exact t_idxN | exact t_load | fail) ?_ | fail))
        refine c_ret1 Tryd.func57 rfl ?_
        exact fun h => h
      · rw [decide_eq_false hL, Bool.false_or] at hq
        (repeat (first | refine c_seq ?_ | refine c_reg ?_ | refine c_rnil ?_ | refine c_block ?_ | refine c_inBlock ?_ | refine c_skip ?_ | refine c_true ?_ | refine c_false ?_ | refine c_op (by first | exact t_moveG | exact t_move | exact t_assign | exact t_add | exact t_lssT | exact t_eqlF | exact t_len | exact t_idxN | exact t_load | fail) ?_ | fail))
        exact (ih (i + 1) ⟨by omega, hq⟩ (by omega)).sub (by repeat (first | exact trivial | refine ⟨has_rfl rfl, ?_⟩ | fail))
    · rw [any_end (by omega)] at hq
      rw [if_neg (by rw [hq]; simp)]
      (repeat (first | refine c_seq ?_ | refine c_reg ?_ | refine c_rnil ?_ | refine c_exit ?_ | refine c_false ?_ | refine c_op (by first | exact t_moveG | exact t_move | exact t_assign | exact t_lssF | exact t_len | fail) ?_ | fail))
      refine c_ret1 Tryd.func57 rfl ?_
      exact fun h => h
end Go.Proofs.YtocoinkhbjlbhaaDoor
end

section
namespace Go.Proofs.YtocoinkhbjlbhaaDoor
open Go Go.RowKit
def fromGo : List Wd → Nat → Nat → Nat
  | [], _, f => f
  | w :: r, i, f => fromGo r (i + 1) (if w.note ≠ 0 then i + 1 else f)
def fromM (ws : List Wd) : Nat := fromGo ws 0 0
def refAt (ws : List Wd) (n : Int) : Nat := (fromM ws + n.tmod (ws.length - fromM ws : Nat)).toNat
def refOk (ws : List Wd) (later : Bool) : Bool := !later && decide (fromM ws < ws.length)
theorem refAt_lt {ws : List Wd} {n : Int} (hn : 0 ≤ n) (h : fromM ws < ws.length) : fromM ws ≤ refAt ws n ∧ refAt ws n < ws.length := by
  have := tmod_rng' (k := ((ws.length - fromM ws : Nat) : Int)) hn (by omega)
  unfold refAt
  omega
set_option maxHeartbeats 2000000 in
theorem refer_c {B tag : Nat} {M : Mut} {w : World} {r : RowD} {n note : Int} {later : Bool} (hok : RowOk B M w tag r) (hn : 0 ≤ n) (hI : I64 n) (hI2 : I64 note) :
    CallsV Tryd.prog 29 [r.v, .int .i64 n, .int .i64 note, .bool later] w (fun v w' =>
      if h : refOk r.ws later = true then ∃ hi : refAt r.ws n < r.ws.length, v = .bool true ∧ RowOk B M w' tag (r.put (refAt r.ws n) { r.ws[refAt r.ws n] with note := note }) ∧ St B (some tag) M w M w' ∧ ∀ b, b ≠ r.b → w'.heap[b]? = w.heap[b]?
      else v = .bool false ∧ w' = w) := by
  have hlen := hok.at_.by_
  refine callsV_of_run Tryd.func29 rfl Tryd.ntmps29 (Nat.le_of_ble_eq_true rfl) ?_
  (repeat (first | refine run_seq ?_ | refine run_region_l ?_ | refine rl_nil ?_ | refine rl_step (by decide) (op_assign rfl ?_) | refine run_block ?_ | fail))
  refine (run_loop (α := Nat × Nat) (fun x => [(0, r.v), (1, .int .i64 n), (2, .int .i64 note), (3, .bool later), (9, .int .i64 x.2), (10, .int .i64 x.1)])
    (fun x w' => x.1 ≤ r.ws.length ∧ w' = w ∧ fromGo (r.ws.drop x.1) x.1 x.2 = fromM r.ws ∧ x.2 ≤ x.1) (fun x => r.ws.length - x.1) (0, 0) ⟨Nat.zero_le _, rfl, rfl, Nat.le_refl _⟩ ?_).sub (by repeat (first | exact trivial | refine ⟨rfl, ?_⟩))
  rintro ⟨i, f⟩ w' ⟨hi, rfl, hF, hfi⟩ ih
  dsimp only at hi hF hfi ih ⊢
  (repeat (first | refine run_seq ?_ | refine run_region_l ?_ | refine rl_step (by decide) (op_move rfl ?_) | fail))
  refine rl_step (by decide) (op_lenv Tryd.underlying27 rfl ?_)
  (repeat (first | refine rl_nil ?_ | refine rl_step (by decide) (op_lss rfl rfl ?_) | fail))
  refine run_if rfl (fun hlt => ?_) (fun hlt => ?_)
  · have hi' : i < r.ws.length := by omega
    rw [List.drop_eq_getElem_cons hi'] at hF
    simp only [fromGo] at hF
    have hw := hok.at_.word hi'
    (repeat (first | refine run_seq ?_ | refine run_region_l ?_ | refine rl_step (by decide) (op_move rfl ?_) | refine run_block ?_ | refine run_skip ?_ | fail))
    refine rl_step (by decide) (op_idxRow rfl rfl (by omega) ?_)
    refine rl_step (by decide) (op_fieldBox fdW3 rfl ?_)
    refine rl_step (by decide) (op_ld1 tdI rfl (by simpa using hw.c3) ?_)
    (repeat (first | refine rl_nil ?_ | refine rl_step (by decide) (op_neq rfl rfl ?_) | fail))
    refine run_if rfl (fun h => ?_) (fun h => ?_)
    · rw [if_pos h] at hF
      (repeat (first | refine run_region_l ?_ | refine rl_nil ?_ | refine rl_step (by decide) (op_move rfl ?_) | refine rl_step (by decide) (op_assign rfl ?_) | refine run_inBlock ?_ | refine rl_step (by decide) (op_add rfl rfl (by omega) ?_) | fail))
      exact (ih (i + 1, i + 1) _ ⟨by dsimp only; omega, rfl, hF, Nat.le_refl _⟩ (by dsimp only; omega)).sub (by repeat (first | exact trivial | refine ⟨rfl, ?_⟩))
    · rw [if_neg h] at hF
      (repeat (first | refine run_region_l ?_ | refine rl_nil ?_ | refine rl_step (by decide) (op_move rfl ?_) | refine rl_step (by decide) (op_assign rfl ?_) | refine run_inBlock ?_ | refine run_skip ?_ | refine rl_step (by decide) (op_add rfl rfl (by omega) ?_) | fail))
      exact (ih (i + 1, f) _ ⟨by dsimp only; omega, rfl, hF, by dsimp only; omega⟩ (by dsimp only; omega)).sub (by repeat (first | exact trivial | refine ⟨rfl, ?_⟩))
  · rw [List.drop_of_length_le (by omega)] at hF
    simp only [fromGo] at hF
    subst hF
    cases later
    · by_cases hlt2 : fromM r.ws < r.ws.length
      · have hro : refOk r.ws false = true := by simp [refOk, hlt2]
        obtain ⟨q1, q2⟩ := refAt_lt hn hlt2
        have hm := tmod_rng' (k := ((r.ws.length - fromM r.ws : Nat) : Int)) hn (by omega)
        have hra : (refAt r.ws n : Int) = fromM r.ws + n.tmod (r.ws.length - fromM r.ws : Nat) := by unfold refAt; omega
        have hsub : ((r.ws.length : Int) - (fromM r.ws : Int)) = ((r.ws.length - fromM r.ws : Nat) : Int) := by omega
        (repeat (first | refine run_seq ?_ | refine run_region_l ?_ | refine rl_step (by decide) (op_move rfl ?_) | refine run_exit rfl ?_ | refine rl_yes rfl rfl ?_ | fail))
        refine rl_step (by decide) (op_lenv Tryd.underlying27 rfl ?_)
        (repeat (first | refine rl_nil ?_ | refine rl_yes rfl rfl ?_ | refine rl_step (by decide) (op_pick_f rfl rfl ?_) | refine rl_step (by decide) (op_geq rfl rfl ?_) | fail))
        refine run_no rfl (by omega) ?_
        (repeat (first | refine run_seq ?_ | refine run_region_l ?_ | refine rl_step (by decide) (op_move rfl ?_) | refine run_skip ?_ | fail))
        refine rl_step (by decide) (op_lenv Tryd.underlying27 rfl ?_)
        (repeat (first | refine rl_step (by decide) (op_move rfl ?_) | refine rl_step (by decide) (op_sub rfl rfl (by omega) ?_) | fail))
        refine rl_step (by decide) (op_rem rfl rfl (by omega) ?_)
        rw [hsub]
        (repeat (first | refine rl_step (by decide) (op_move rfl ?_) | refine rl_step (by decide) (op_add rfl rfl (by omega) ?_) | fail))
        refine rl_step (by decide) (op_idxRow rfl rfl (by omega) ?_)
        refine rl_step (by decide) (op_fieldBox fdW3 rfl ?_)
        have hidx : ((fromM r.ws : Int) + n.tmod ((r.ws.length - fromM r.ws : Nat) : Int)).toNat = refAt r.ws n := rfl
        rw [hidx]
        refine rl_step0 (op_stRow (n := refAt r.ws n) (f := 3) (x' := { r.ws[refAt r.ws n] with note := note }) tdI rfl rfl rfl q2 hok (by omega) (fun cs hR => ?_) fun w1 h1 h2 h3 => ?_)
        · exact w3l.set hR ⟨rfl, fun _ => hI2, fun e => by cases e⟩
        (repeat (first | refine run_seq ?_ | refine run_region_l ?_ | refine rl_nil ?_ | refine rl_step (by decide) (op_assign rfl ?_) | fail))
        refine run_ret1 Tryd.func29 rfl rfl ?_
        rw [dif_pos hro]
        exact ⟨q2, rfl, h1, h2, h3⟩
      · have hro : ¬ refOk r.ws false = true := by simp [refOk, hlt2]
        (repeat (first | refine run_seq ?_ | refine run_region_l ?_ | refine rl_step (by decide) (op_move rfl ?_) | refine run_exit rfl ?_ | refine rl_yes rfl rfl ?_ | fail))
        refine rl_step (by decide) (op_lenv Tryd.underlying27 rfl ?_)
        (repeat (first | refine rl_nil ?_ | refine rl_yes rfl rfl ?_ | refine rl_step (by decide) (op_pick_f rfl rfl ?_) | refine rl_step (by decide) (op_geq rfl rfl ?_) | fail))
        refine run_yes rfl (by omega) ?_
        (repeat (first | refine run_seq ?_ | refine run_region_l ?_ | refine rl_nil ?_ | refine rl_step (by decide) (op_assign rfl ?_) | fail))
        refine run_ret1 Tryd.func29 rfl rfl ?_
        rw [dif_neg hro]
        exact ⟨rfl, rfl⟩
    · have hro : ¬ refOk r.ws true = true := by simp [refOk]
      (repeat (first | refine run_seq ?_ | refine run_region_l ?_ | refine rl_nil ?_ | refine rl_step (by decide) (op_move rfl ?_) | refine rl_step (by decide) (op_assign rfl ?_) | refine run_exit rfl ?_ | refine run_true rfl ?_ | refine rl_no rfl rfl rfl (by decide) ?_ | refine rl_step (by decide) (op_pick_t rfl rfl ?_) | fail))
      refine run_ret1 Tryd.func29 rfl rfl ?_
      rw [dif_neg hro]
      exact ⟨rfl, rfl⟩
theorem rows_len {M : Mut} {w : World} {v : Value} {l : List (List Wd)} (h : SlOf (eSl eWord) M w v l) : ∀ p ∈ l, p.length ≤ 2932031007403 := fun p hp => by
  obtain ⟨i, hi, rfl⟩ := List.mem_iff_getElem.1 hp
  obtain ⟨a, cap, h1, h2, h3, h4, h5, h6⟩ := h.ex
  cases a with
  | none => have := h4 rfl; omega
  | some ad =>
    obtain ⟨cs, ⟨u, _, hs⟩, _⟩ := h6 ad rfl i hi
    exact i_len48 hs
def lastM (l : List (List Wd)) (k : Nat) : Bool := (l.drop (k + 1)).any fun p => p.any fun w => decide (w.note ≠ 0)
theorem last_f {l : List (List Wd)} {k : Nat} (hk : k ≤ 1000000) : Fn Tryd.prog 30 [pSl (eSl eWord) l, pI k] (pB (lastM l k)) := by
  refine fn_of ent30 Tryd.func30 rfl Tryd.ntmps30 rfl fun M0 w0 => ?_
  refine c_have 0 (fun h => i_len24 h) fun hl => ?_
  refine c_have 0 (fun h => rows_len h) fun hrl => ?_
  obtain ⟨r, hr⟩ : ∃ r, r = lastM l k := ⟨_, rfl⟩
  rw [← hr]
  (repeat (first | refine c_seq ?_ | refine c_reg ?_ | refine c_rnil ?_ | refine c_block ?_ | refine c_op (by first | exact t_move | exact t_assign | exact t_add | fail) ?_ | fail))
  refine c_loop (fun i : Nat => [(0, .pu (pSl (eSl eWord) l)), (5, .pu (pI i))]) (fun i => k + 1 ≤ i ∧ r = (l.drop i).any fun p => p.any fun w => decide (w.note ≠ 0)) (fun i => l.length - i) (k + 1) ⟨Nat.le_refl _, hr⟩ (by repeat (first | exact trivial | refine ⟨has_rfl rfl, ?_⟩ | fail)) fun i hJ ih => ?_
  obtain ⟨hi, hri⟩ := hJ
  by_cases hlt : i < l.length
  · rw [any_drop hlt] at hri
    have hpl := hrl _ (List.getElem_mem hlt)
    (repeat (first | refine c_seq ?_ | refine c_reg ?_ | refine c_rnil ?_ | refine c_block ?_ | refine c_skip ?_ | refine c_true ?_ | refine c_op (by first | exact t_move | exact t_assign | exact t_lssT | exact t_len | fail) ?_ | fail))
    refine c_loop (fun k : Nat => [(0, .pu (pSl (eSl eWord) l)), (5, .pu (pI i)), (6, .pu (pI k))])
      (fun k => k ≤ l[i].length ∧ r = (((l[i].drop k).any fun w => decide (w.note ≠ 0)) || (l.drop (i + 1)).any fun p => p.any fun w => decide (w.note ≠ 0))) (fun k => l[i].length - k) 0 ⟨by omega, hri⟩ (by repeat (first | exact trivial | refine ⟨has_rfl rfl, ?_⟩ | fail)) fun k ⟨hk, hrk⟩ ih2 => ?_
    by_cases hlk : k < l[i].length
    · rw [any_drop hlk] at hrk
      by_cases hno : l[i][k].note = 0
      · rw [decide_eq_false (fun h => h hno), Bool.false_or] at hrk
        (repeat (first | refine c_seq ?_ | refine c_reg ?_ | refine c_rnil ?_ | refine c_block ?_ | refine c_inBlock ?_ | refine c_skip ?_ | refine c_true ?_ | refine c_false ?_ | refine c_op (by first | exact t_move | exact t_assign | exact t_add | exact t_lssT | exact t_neqF | exact t_len | exact t_idxN | exact t_load | exact t_fa | fail) ?_ | fail))
        exact (ih2 (k + 1) ⟨by omega, hrk⟩ (by omega)).sub (by repeat (first | exact trivial | refine ⟨has_rfl rfl, ?_⟩ | fail))
      · rw [decide_eq_true hno, Bool.true_or, Bool.true_or] at hrk
        rw [hrk]
        (repeat (first | refine c_seq ?_ | refine c_reg ?_ | refine c_rnil ?_ | refine c_block ?_ | refine c_skip ?_ | refine c_true ?_ | refine c_op (by first | exact t_move | exact t_assign | exact t_lssT | exact t_neqT | exact t_len | exact t_idxN | exact t_load | exact t_fa | fail) ?_ | fail))
        refine c_ret1 Tryd.func30 rfl ?_
        exact fun h => h
    · rw [any_end (by omega), Bool.false_or] at hrk
      (repeat (first | refine c_seq ?_ | refine c_reg ?_ | refine c_rnil ?_ | refine c_inBlock ?_ | refine c_exit ?_ | refine c_false ?_ | refine c_op (by first | exact t_move | exact t_assign | exact t_add | exact t_lssF | exact t_len | exact t_idxN | exact t_load | fail) ?_ | fail))
      exact (ih (i + 1) ⟨by omega, hrk⟩ (by omega)).sub (by repeat (first | exact trivial | refine ⟨has_rfl rfl, ?_⟩ | fail))
  · rw [any_end (by omega)] at hri
    rw [hri]
    (repeat (first | refine c_seq ?_ | refine c_reg ?_ | refine c_rnil ?_ | refine c_exit ?_ | refine c_false ?_ | refine c_op (by first | exact t_move | exact t_assign | exact t_lssF | exact t_len | fail) ?_ | fail))
    refine c_ret1 Tryd.func30 rfl ?_
    exact fun h => h
end Go.Proofs.YtocoinkhbjlbhaaDoor
end

section
namespace Go.Proofs.YtocoinkhbjlbhaaDoor
open Go Go.RowKit
section
variable {P : Program} {f : FuncId} {N : Nat} {R : Value → World → Prop} {fr : Fr} {w : World} {k : List Item} {ops : Array Oper} {n : Nat}
theorem rt_yes {listed : Array Bool} {i j dj : Nat} {want : Bool} {d : Nat} {op : Op} {ty : TypeId} {pos : String} {aft : Array Edge} (hr : Region.ready .any ops listed = [i]) (ho : ops[i]? = some ⟨some d, op, ty, pos, aft, some (j, want)⟩) (hj : (ops[j]?).bind (·.dst) = some dj) (hl : look fr dj = some (.bool want)) (hd : d < N)
    (h : OP P N ⟨some d, op, ty, pos, aft, some (j, want)⟩ fr w (fun v w' => RT P f N ops k R n (listed.setIfInBounds i true) ((d, v) :: fr) w')) : RT P f N ops k R (n + 1) listed fr w := by
  refine ⟨fun a ha => ?_⟩
  refine ⟨(fun h0 => by rw [hr] at h0; cases h0), fun q hq => ?_⟩
  rw [hr] at hq
  simp at hq
  subst hq
  have hy := yielded_of ha hj hl
  unfold wpOp
  simp only [ho]
  rw [if_pos (by simp [Region.wanted, hy])]
  exact .inl (OP.wp (h.mono fun v w' hk => hk.out _ (ha.put v hd)) ha)
end
section
variable {P : Program} {f : FuncId} {N : Nat} {M0 : Mut} {w0 : World} {R : Value → World → Prop} {G : TF} {k : List Item} {n : Nat} {listed : Array Bool}
variable {ops : Array Oper} {d : Nat} {op : Op} {ty : TypeId} {pos : String} {aft : Array Edge} {T : Kd}
theorem q_yes (i : Nat) {j dj : Nat} {want : Bool} {W : List Nat} (hr : Region.ready .any ops listed = [i]) (ho : ops[i]? = some ⟨some d, op, ty, pos, aft, some (j, want)⟩) (h : TOp P N ⟨some d, op, ty, pos, aft, some (j, want)⟩ G W T)
    (hk : RTt P f N M0 w0 ops k R n (listed.setIfInBounds i true) ((d, T) :: dropW W G)) (hj : (ops[j]?).bind (·.dst) = some dj := by rfl) (hg : topP G (.tmp dj) = some (pB want) := by rfl) (hd : d < N := by decide) : RTt P f N M0 w0 ops k R (n + 1) listed G := ⟨fun hrn hf => by
  obtain ⟨v, h1, rfl⟩ := hf.op0 hg (fun _ _ => trivial)
  exact rt_yes hr ho hj h1 hd ((h.fit hrn hf).mono fun _ _ ⟨_, hs, hv⟩ => hk.out (hrn.stw hs) ((hf.after hs).cons hv))⟩
theorem q_yesE (i key : Nat) {j dj : Nat} {want : Bool} {W : List Nat} {β : Type} {T T' : β → Kd} (hr : Region.ready .any ops listed = [i]) (ho : ops[i]? = some ⟨some d, op, ty, pos, aft, some (j, want)⟩) (h : TOpE P N ⟨some d, op, ty, pos, aft, some (j, want)⟩ G W T T')
    (hk : ∀ x, RTt P f N M0 w0 ops k R n (listed.setIfInBounds i true) ((d, T x) :: (key, T' x) :: dropW W G)) (hg' : ∀ x, (T' x).ghost = true := by intro x; rfl) (hj : (ops[j]?).bind (·.dst) = some dj := by rfl) (hg : topP G (.tmp dj) = some (pB want) := by rfl) (hd : d < N := by decide) : RTt P f N M0 w0 ops k R (n + 1) listed G := ⟨fun hrn hf => by
  obtain ⟨v, h1, rfl⟩ := hf.op0 hg (fun _ _ => trivial)
  exact rt_yes hr ho hj h1 hd ((h.fit hrn hf).mono fun _ _ ⟨x, _, hs, hv, hv'⟩ => (hk x).out (hrn.stw hs) (((hf.after hs).hide (Kd.E_of_V (hg' x) hv')).cons hv))⟩
theorem q_open (t key : Nat) {g : Gh} {β : Type} (T T' : β → Kd) (hs : ∀ {B : Nat} {M : Mut} {w : World} {v : Value}, g.p B M w v → ∃ x, (T x).V B M w v ∧ (T' x).V B M w undef)
    (h : ∀ x, RTt P f N M0 w0 ops k R n listed ((t, T x) :: (key, T' x) :: G)) (ht : tlook G t = some (.go g) := by rfl) (hg : ∀ x, (T' x).ghost = true := by intro x; rfl) (hT : ∀ (x : β) (B : Nat) (M : Mut) (w : World) (fr : Fr) (v : Value), look fr t = some v → (T x).V B M w v → (T x).E B M w fr t := by intro x B M w fr v h1 h2; exact ⟨v, h1, h2⟩) :
    RTt P f N M0 w0 ops k R n listed G := ⟨fun hr hf => by
  obtain ⟨v, h1, h2⟩ := hf.out t _ ht (.inr trivial)
  obtain ⟨x, k1, k2⟩ := hs h2
  exact (h x).out hr ((hf.hide (Kd.E_of_V (hg x) k2)).hide (hT x _ _ _ _ _ h1 k1))⟩
end
section
variable {P : Program} {N : Nat} {G : TF} {d : Option Tmp} {ty : TypeId} {pos : String} {aft : Array Edge} {g : Option (Nat × Bool)}
theorem t_lenNm {α : Type} {E : Enc α} {x : Operand} {v : Value} {l : List α} {tag : Nat} {t e e' : TypeId} (key : Nat) (hx : topP G x = some (pv v) := by rfl) (hg : tlook G key = some (.gv v E l tag e') := by rfl) (ht : USl P t e := by infer_instance) :
    TOp P N ⟨d, .call ⟨.builtin .len, #[x], #[t]⟩, ty, pos, aft, g⟩ G [] (.pu (pI l.length)) := .pure [x] (by simp [Op.operands, Call.operands]) fun hf => by
  obtain ⟨_, h0, rfl⟩ := hf.op hx (by simp)
  obtain ⟨h1, _⟩ := hf.out key _ hg (.inl rfl)
  have hl := h1.le
  exact op_len ht.out h0 h1 ⟨rfl, rfl, rng64 (by omega)⟩
theorem t_idxNm {x i : Operand} {v : Value} {rows : List RowD} {tag : Nat} {e' : TypeId} {k : IntKind} {n : Nat} (key : Nat) (hx : topP G x = some (pv v) := by rfl) (hg : tlook G key = some (.gv v eRaw (rows.map RowD.v) tag e') := by rfl) (hi : topP G i = some (pK k (n : Int)) := by rfl)
    (hn : n < rows.length := by omega) : TOp Tryd.prog N ⟨d, .indexAddr 23 x i, ty, pos, aft, g⟩ G [] (.pu (pPtr eRaw (rows[n]'hn).v)) := .pure [x, i] (by simp [Op.operands]) fun {B M w fr} hf => by
  obtain ⟨_, h0, rfl⟩ := hf.op hx (by simp)
  obtain ⟨_, h2, rfl, _⟩ := hf.op hi (by simp)
  obtain ⟨h1, _⟩ := hf.out key _ hg (.inl rfl)
  refine op_indexAddr Tryd.underlying23 teRaw.out h0 h2 h1 (by rw [List.length_map]; omega) fun ad hn' he => ⟨rfl, ad, rfl, ?_⟩
  simpa using he
theorem t_ldRaw {x : Operand} {u : Value} (hx : topP G x = some (pPtr eRaw u) := by rfl) : TOp Tryd.prog N ⟨d, .load 27 x, ty, pos, aft, g⟩ G [] (.pu (pv u)) := t_load hx teRaw ldRaw
theorem t_last {x y : Operand} {argT : Array TypeId} {v : Value} {rows rest : List RowD} {tag tg k : Nat} {e' : TypeId} (kv kr : Nat) (hk : k ≤ 1000000 := by omega) (hx : topP G x = some (pv v) := by rfl) (hy : topP G y = some (pI (k : Int)) := by rfl) (hg : tlook G kv = some (.gv v eRaw (rows.map RowD.v) tag e') := by rfl)
    (hr : tlook G kr = some (.gh (rowsG tg (rows ++ rest))) := by rfl) :
    TOp Tryd.prog N ⟨d, .call ⟨.value (.func 30), #[x, y], argT⟩, ty, pos, aft, g⟩ G [] (.pu (pB (lastM (rows.map RowD.ws) k))) := .up [x, y] (by simp [Op.operands, Call.operands]) fun {M0 w0 M w fr} hrn hf => by
  obtain ⟨v1, h0, e1⟩ := hf.op hx (by simp)
  change v1 = v at e1
  subst e1
  obtain ⟨u, h1, h2⟩ := hf.op hy (by simp)
  obtain ⟨h3, _⟩ := hf.out kv _ hg (.inl rfl)
  obtain ⟨h4, _⟩ := hf.out kr _ hr (.inl rfl)
  have hread := rows_read (M' := fun _ => none) h3 ⟨fun a u hc => ⟨hc.1, fun p hp => by cases hp⟩⟩ (fun r hr' => ⟨(h4 r (List.mem_append_left _ hr')).at_, rfl⟩)
  have hl : Lays (fun _ => none) w := ⟨fun i hi => ⟨(hf.lay.cell i hi).1, fun p hp => by cases hp⟩⟩
  exact op_call ent30 (args := [x, y]) (vs := [v1, u]) (by simp [opvs, h0, h1]) ((last_f hk).run (fun _ => none) w [v1, u] (fun b _ => rfl) hl ⟨hread, h2, trivial⟩) fun v' w' hv => ⟨hv.2, hv.1⟩
def refRow (r : RowD) (n note : Int) : RowD := r.put (refAt r.ws n) { (r.ws[refAt r.ws n]?).getD ⟨emp, emp, 0, 0⟩ with note := note }
theorem t_refer {x y z u : Operand} {argT : Array TypeId} {rows : List RowD} {i : Nat} {tag : Nat} {n note : Int} {later : Bool} (kr : Nat) (hi : i < rows.length) (hn : 0 ≤ n) (hx : topP G x = some (pv (rows[i]'hi).v) := by rfl) (hy : topP G y = some (pI n) := by rfl) (hz : topP G z = some (pI note) := by rfl) (hu : topP G u = some (pB later) := by rfl)
    (hr : tlook G kr = some (.gh (rowsG tag rows)) := by rfl) :
    TOpE Tryd.prog N ⟨d, .call ⟨.value (.func 29), #[x, y, z, u], argT⟩, ty, pos, aft, g⟩ G [tag] (fun _ : Unit => .pu (pB (refOk (rows[i]'hi).ws later))) (fun _ => .gh (rowsG tag (if refOk (rows[i]'hi).ws later = true then rows.set i (refRow (rows[i]'hi) n note) else rows))) :=
  ⟨[x, y, z, u], by simp [Op.operands, Call.operands], fun {M0 w0 M w fr} hrn hf => by
  obtain ⟨_, h0, rfl⟩ := hf.op hx (by simp)
  obtain ⟨_, h1, rfl, r1⟩ := hf.op hy (by simp)
  obtain ⟨_, h2, rfl, r2⟩ := hf.op hz (by simp)
  obtain ⟨_, h3, rfl⟩ := hf.op hu (by simp)
  obtain ⟨h4, h5⟩ := hf.out kr _ hr (.inl rfl)
  have hok := h4 _ (List.getElem_mem hi)
  refine op_call ent29 (args := [x, y, z, u]) (vs := [(rows[i]'hi).v, .int .i64 n, .int .i64 note, .bool later]) (by simp [opvs, h0, h1, h2, h3]) (refer_c hok hn (r1.1 rfl) (r2.1 rfl)) fun v w' hv => ?_
  split at hv
  · rename_i hro
    obtain ⟨hi2, rfl, k1, k2, k3⟩ := hv
    refine ⟨(), M, StW.st k2, by rw [hro]; rfl, ?_⟩
    rw [if_pos hro]
    have hrow : refRow (rows[i]'hi) n note = (rows[i]'hi).put (refAt (rows[i]'hi).ws n) { (rows[i]'hi).ws[refAt (rows[i]'hi).ws n] with note := note } := by
      unfold refRow
      rw [List.getElem?_eq_getElem hi2]
      rfl
    refine ⟨fun r hr' => ?_, ?_⟩
    · obtain ⟨j, hj, rfl⟩ := List.mem_iff_getElem.1 hr'
      rw [List.length_set] at hj
      rw [List.getElem_set]
      split
      · rw [hrow]; exact k1
      · rename_i hne
        have hokj := h4 _ (List.getElem_mem hj)
        have hb : rows[j].b ≠ rows[i].b := fun e => by
          have hnd := List.pairwise_iff_getElem.1 h5
          rcases Nat.lt_or_ge i j with hlt | hge
          · exact hnd i j (by simpa using hi) (by simpa using hj) hlt (by simp [e])
          · exact hnd j i (by simpa using hj) (by simpa using hi) (by omega) (by simp [e])
        exact ⟨hokj.ge, hokj.at_.same (k3 _ hb), hokj.mark⟩
    · have e : (rows.set i (refRow (rows[i]'hi) n note)).map RowD.b = rows.map RowD.b := by
        apply List.ext_getElem (by simp)
        intro j h1 h2
        simp only [List.getElem_map, List.getElem_set]
        split
        · rename_i e; subst e; rfl
        · rfl
      rw [e]
      exact h5
  · rename_i hro
    obtain ⟨rfl, rfl⟩ := hv
    refine ⟨(), M, StW.mono (W := []) (by simp) (StW.refl _ _ _), by rw [Bool.not_eq_true] at hro; rw [hro]; rfl, ?_⟩
    rw [if_neg hro]
    exact ⟨h4, h5⟩⟩
theorem t_loadAgg {x : Operand} {b tag : Nat} {cs z : List Value} {t e : TypeId} {by' sz : Nat} (key : Nat) (hT : TD P t sz by' true z) (hx : topP G x = some (pCe b 0) := by rfl) (hg : tlook G key = some (.bx b tag cs e) := by rfl) (hl : cs.length = sz := by rfl) :
    TOp P N ⟨d, .load t x, ty, pos, aft, g⟩ G [] (.pu (pv (.agg cs.toArray))) := .pure [x] (by simp [Op.operands]) fun {B M w fr} hf => by
  obtain ⟨_, k0, rfl⟩ := hf.op hx (by simp)
  obtain ⟨_, hbx⟩ := hf.out key _ hg (.inl rfl)
  refine op_loadn hT k0 hbx (by omega) ⟨rfl, ?_⟩
  rw [List.drop_zero, List.take_of_length_le (by omega)]
  rfl
theorem t_stAg {x y : Operand} {b tag : Nat} {cs c z : List Value} {t e : TypeId} {sz by' : Nat} (key : Nat) (hT : TD P t sz by' true z) (h1 : ∀ u ∈ c, u.oneCell' = true) (hx : topP G x = some (pCe b 0) := by rfl) (hg : tlook G key = some (.bx b tag cs e) := by rfl) (hy : topP G y = some (pv (.agg c.toArray)) := by rfl)
    (hs : c.length = sz := by rfl) (hl : c.length = cs.length := by rfl) :
    TOp P N ⟨d, .store t x y, ty, pos, aft, g⟩ G [tag] (.bx b tag c e) := ⟨[x, y], by simp [Op.operands], fun {M0 w0 M w fr} hr hf => by
  obtain ⟨_, k0, rfl⟩ := hf.op hx (by simp)
  obtain ⟨_, k1, rfl⟩ := hf.op hy (by simp)
  obtain ⟨hB, hbx⟩ := hf.out key _ hg (.inl rfl)
  refine op_store hT k0 k1 (c := c) (by simp [Value.cells]) h1 hs hr hB hbx (by omega) fun w' hb' hst => ⟨M, StW.st hst, hB, ?_⟩
  have hsp : splice cs 0 c = c := by
    unfold splice
    rw [List.take_zero, List.nil_append, List.drop_of_length_le (by omega), List.append_nil]
  rwa [hsp] at hb'⟩
end
instance focTx0 : FOc Tryd.prog 25 0 0 := ⟨fdT0⟩
instance focTx1 : FOc Tryd.prog 25 1 1 := ⟨fdT1⟩
instance t1cSSW : T1c Tryd.prog 23 := ⟨24, _, tdSSW⟩
end Go.Proofs.YtocoinkhbjlbhaaDoor
end

section
namespace Go.Proofs.YtocoinkhbjlbhaaDoor
open Go Go.RowKit
def row0 (l : List Int) (j : Nat) : List Wd := partM (pickM l (2 + j) 1000000) 40
def paras0 (l : List Int) : List (List Wd) := (List.range ((pickM l 0 4).toNat + 1)).map (row0 l)
def findK (ps : List (List Wd)) : Nat → Nat → Option Nat
  | _, 0 => none
  | k, f + 1 => if refOk ((ps[k]?).getD []) (lastM ps k) = true then some k else findK ps (k + 1) f
def putRef (ws : List Wd) (n note : Int) : List Wd := ws.set (refAt ws n) { (ws[refAt ws n]?).getD ⟨emp, emp, 0, 0⟩ with note := note }
def noteStep (t : Tx) (n : Int) : Tx := match findK t.paras 0 t.paras.length with
  | none => t
  | some k => ⟨t.paras.set k (putRef ((t.paras[k]?).getD []) n (t.notes.length + 1)), t.notes ++ [partM n 12]⟩
def textN (l : List Int) (c : Nat) : Tx := (List.range c).foldl (fun t (i : Nat) => noteStep t (pickM l (6 + i) 1000000)) ⟨paras0 l, []⟩
def textM (l : List Int) : Tx := textN l (pickM l 1 4).toNat
theorem textN_succ (l : List Int) (c : Nat) : textN l (c + 1) = noteStep (textN l c) (pickM l (6 + c) 1000000) := by
  unfold textN
  rw [List.range_succ, List.foldl_append]; rfl
def TxOk (B : Nat) (M : Mut) (w : World) (tag : Nat) (rows nrows : List RowD) (v : Value) : Prop :=
  (∃ pv nv, v = .agg #[pv, nv] ∧ SlOf eRaw M w pv (rows.map RowD.v) ∧ SlOf eRaw M w nv (nrows.map RowD.v)) ∧ (rowsG tag (rows ++ nrows)).p B M w undef
def RetTx (M0 : Mut) (w0 : World) (t : Tx) : Value → World → Prop := fun v w =>
  Below w0.heap.size w0 w ∧ ∀ tag, ∃ M', UpM M0 w0 M' w ∧ ∃ rows nrows, rows.map RowD.ws = t.paras ∧ nrows.map RowD.ws = t.notes ∧ TxOk w0.heap.size M' w tag rows nrows v
structure FnTx (P : Program) (g : FuncId) (Ps : List Pub) (t : Tx) : Prop where
  ent : Ent P g
  run : ∀ M w vs, MB M w → Lays M w → FitL M w Ps vs → CallsV P g vs w (RetTx M w t)
theorem fnTx_of {P : Program} {f : FuncId} {N : Nat} {fn : Func} {c : Code} {Ps : List Pub} {t : Tx} (he : Ent P f) (hf : P.funcs[f]? = some fn) (hb : fn.body = some c) (hN : fn.ntmps = N) (hn : Nat.ble Ps.length N = true)
    (h : ∀ M0 w0, Rt P f N M0 w0 [.code c] (argTF 0 Ps) (RetTx M0 w0 t)) : FnTx P f Ps t := ⟨he, fun M w vs hm hl hv => by
  have hlen := hv.len
  exact callsV_of_run hf hb hN (by rw [hlen]; exact Nat.le_of_ble_eq_true hn) ((h M w).out (Rn.refl hm) (fit_args hl 0 hv))⟩
section
variable {P : Program} {f : FuncId} {N : Nat} {M0 : Mut} {w0 : World} {R : Value → World → Prop} {G : TF} {k : List Item}
theorem c_gvSl {todo : List Item} {α : Type} {E : Enc α} {v : Value} {l : List α} {tag : Nat} {e : TypeId} (key : Nat) (h : v.oneCell' = true → Rt P f N M0 w0 todo G R) (hg : tlook G key = some (.gv v E l tag e) := by rfl) : Rt P f N M0 w0 todo G R := ⟨fun hr hf => by
  obtain ⟨h1, _⟩ := hf.out key _ hg (.inr trivial)
  obtain ⟨a, cap, e, _⟩ := h1.ex
  exact (h (by rw [e]; rfl)).out hr hf⟩
theorem c_retTx {fn : Func} {t b tag tg e1 e2 tb tn : Nat} {e : TypeId} {pv nv : Value} {rows nrows : List RowD} {tx : Tx} (hf : Tryd.prog.funcs[f]? = some fn) (hr : fn.results = #[.cell t 25]) (key kp kn kr : Nat) (h1 : rows.map RowD.ws = tx.paras) (h2 : nrows.map RowD.ws = tx.notes)
    (hp : topP G (.tmp t) = some (pCe b 0) := by rfl) (hg : tlook G key = some (.bx b tag [pv, nv] e) := by rfl) (hgp : tlook G kp = some (.gv pv eRaw (rows.map RowD.v) tb e1) := by rfl) (hgn : tlook G kn = some (.gv nv eRaw (nrows.map RowD.v) tn e2) := by rfl) (hgr : tlook G kr = some (.gh (rowsG tg (rows ++ nrows))) := by rfl) :
    Rt Tryd.prog f N M0 w0 (.code .ret :: k) G (RetTx M0 w0 tx) := ⟨fun {M w fr} hrn hfit => by
  obtain ⟨v, q1, rfl⟩ := hfit.op0 hp (fun _ _ => trivial)
  obtain ⟨hB, hbx⟩ := hfit.out key _ hg (.inr trivial)
  obtain ⟨p1, _⟩ := hfit.out kp _ hgp (.inr trivial)
  obtain ⟨n1, _⟩ := hfit.out kn _ hgn (.inr trivial)
  obtain ⟨r1, r2⟩ := hfit.out kr _ hgr (.inr trivial)
  refine run_retc hf hr q1 tdT hbx rfl ⟨hrn.bel, fun tag' => ?_⟩
  refine ⟨fun c => if c ∈ (rows ++ nrows).map RowD.b then some (0, tag') else M0 c, ⟨hrn.bel, fun c hc => ?_, fun hmb c hc => ?_⟩, rows, nrows, h1, h2, ⟨pv, nv, rfl, ?_, ?_⟩, fun r hr' => ⟨(r1 r hr').ge, (r1 r hr').at_, ?_⟩, r2⟩
  · rw [if_neg]
    intro hm
    obtain ⟨r, hr', e⟩ := List.mem_map.1 hm
    have := (r1 r hr').ge
    omega
  · rw [if_neg]
    · exact hmb c (Nat.le_trans hrn.bel.size hc)
    · intro hm
      obtain ⟨r, hr', e⟩ := List.mem_map.1 hm
      have := (r1 r hr').at_.lt
      omega
  · refine p1.mono ⟨fun a u hc => ⟨hc.1, fun p hp => ?_⟩⟩
    simp only at hp
    split at hp
    · rename_i hm
      obtain ⟨r, hr', e⟩ := List.mem_map.1 hm
      have := hc.2 _ (e ▸ (r1 r hr').mark)
      exact absurd this (Nat.not_lt_zero _)
    · exact (hrn.fin.cell a u hc).2 p hp
  · refine n1.mono ⟨fun a u hc => ⟨hc.1, fun p hp => ?_⟩⟩
    simp only at hp
    split at hp
    · rename_i hm
      obtain ⟨r, hr', e⟩ := List.mem_map.1 hm
      have := hc.2 _ (e ▸ (r1 r hr').mark)
      exact absurd this (Nat.not_lt_zero _)
    · exact (hrn.fin.cell a u hc).2 p hp
  · rw [if_pos (List.mem_map.2 ⟨r, hr', rfl⟩)]⟩
end
theorem FnTx.fn {P : Program} {g : FuncId} {Ps : List Pub} {t : Tx} (h : FnTx P g Ps t) : Fn P g Ps (pV eText t) := ⟨h.ent, fun M w vs hm hl hf => (h.run M w vs hm hl hf).mono fun v w' ⟨hb, hv⟩ => by
  obtain ⟨M', hup, rows, nrows, e1, e2, ⟨pv, nv, rfl, p1, n1⟩, r1, r2⟩ := hv 0
  have hfin : X M' w' M w' := (Rn.up (Rn.refl hm) hup).fin
  have hM : ∀ r ∈ rows ++ nrows, RowAt w' r ∧ M r.b = none := fun r hr => ⟨(r1 r hr).at_, hm _ (r1 r hr).ge⟩
  have q1 := rows_read p1 hfin (fun r hr => hM r (List.mem_append_left _ hr))
  have q2 := rows_read n1 hfin (fun r hr => hM r (List.mem_append_right _ hr))
  rw [e1] at q1
  rw [e2] at q2
  exact ⟨⟨[pv, nv], ⟨[pv], [nv], rfl, ⟨pv, rfl, q1⟩, ⟨nv, rfl, q2⟩⟩, rfl⟩, hb⟩⟩
end Go.Proofs.YtocoinkhbjlbhaaDoor
end

section
namespace Go.Proofs.YtocoinkhbjlbhaaDoor
open Go Go.RowKit
theorem findK_all {ps : List (List Wd)} {k f : Nat} (h : refOk ((ps[k]?).getD []) (lastM ps k) = true) : findK ps k (f + 1) = some k := by simp only [findK, h, if_true]
theorem findK_next {ps : List (List Wd)} {k f : Nat} (h : ¬ refOk ((ps[k]?).getD []) (lastM ps k) = true) : findK ps k (f + 1) = findK ps (k + 1) f := by simp only [findK, if_neg h]
theorem put_v (r : RowD) (n : Nat) (x : Wd) : (r.put n x).v = r.v := by unfold RowD.put RowD.v; simp
theorem rset_same {α β : Type} {f : α → β} {l : List α} {k : Nat} {x : α} (h : k < l.length) (e : f x = f l[k]) : (l.set k x).map f = l.map f := by
  apply List.ext_getElem (by simp)
  intro j h1 h2
  simp only [List.getElem_map, List.getElem_set]
  split
  · rename_i e2; subst e2; exact e
  · rfl
set_option maxHeartbeats 16000000 in
theorem text_f {l : List Int} : FnTx Tryd.prog 8 [pSl eI l] (textM l) := by
  refine fnTx_of ent8 Tryd.func8 rfl Tryd.ntmps8 rfl fun M0 w0 => ?_
  refine c_have 0 (fun h => i_len26 h) fun hl => ?_
  have hc0 := pickM_bd l 0 4 (by omega)
  have hc1 := pickM_bd l 1 4 (by omega)
  obtain ⟨c0, hc0'⟩ : ∃ c : Nat, (c : Int) = pickM l 0 4 := ⟨(pickM l 0 4).toNat, by omega⟩
  obtain ⟨c1, hc1'⟩ : ∃ c : Nat, (c : Int) = pickM l 1 4 := ⟨(pickM l 1 4).toNat, by omega⟩
  (repeat (first | refine c_seq ?_ | refine c_reg ?_ | refine (c_allocB 15 100 tdT) ?_ | fail))
  intro b2
  (repeat (first | refine c_seq ?_ | refine c_reg ?_ | refine c_rnil ?_ | refine (c_allocB 14 101 tdT) ?_ | fail))
  intro b3
  (repeat (first | refine c_seq ?_ | refine c_reg ?_ | refine c_rnil ?_ | refine c_block ?_ | refine c_op (by first | exact t_call (h := (pick_f (by omega))) | exact t_move | exact t_assign | fail) ?_ | fail))
  refine c_nilV eRaw 11 27 102 ?_
  refine c_gnew 200 (.gh (rowsG 12 [])) (fun {B M w} => ⟨(fun r hr => by cases hr), List.nodup_nil⟩) ?_
  refine c_loop (fun x : Nat × Value × List RowD => [(0, .pu (pSl eI l)), (2, .pu (pCe b2 0)), (100, .bx b2 15 [.slice none 0 0, .slice none 0 0] 25), (3, .pu (pCe b3 0)), (101, .bx b3 14 [x.2.1, .slice none 0 0] 25), (102, .gv x.2.1 eRaw (x.2.2.map RowD.v) 11 27), (200, .gh (rowsG 12 x.2.2)), (4, .pu (pI (pickM l 1 4))), (5, .pu (pI x.1))])
    (fun x => x.1 ≤ c0 + 1 ∧ x.2.2.map RowD.ws = (List.range x.1).map (row0 l)) (fun x => c0 + 1 - x.1) (0, .slice none 0 0, []) ⟨by simp, rfl⟩ (by repeat (first | exact trivial | refine ⟨has_rfl rfl, ?_⟩ | fail)) ?_
  rintro ⟨i, pv0, rows⟩ ⟨hi, hrows⟩ ih
  dsimp only at hi hrows ih ⊢
  have hrl : rows.length = i := by have := congrArg List.length hrows; simpa using this
  by_cases hlt : i ≤ c0
  · have hp := pickM_bd l (2 + i) 1000000 (by omega)
    have pf := part_f (most := 40) hp.1 (by omega)
    (repeat (first | refine c_seq ?_ | refine c_reg ?_ | refine c_rnil ?_ | refine c_block ?_ | refine c_skip ?_ | refine c_true ?_ | refine c_op (by first | exact t_call (h := (pick_f (by omega))) | exact t_move | exact t_leqT | fail) ?_ | fail))
    refine c_draw {} 8 3 [] [] mixed (by kernel_rfl) rfl rfl ?_
    (repeat (first | refine d_op (by first | exact t_call (h := (pick_f (by omega))) | exact (t_faB) | exact (t_loadB 101) | exact (t_callO 200 pf) | exact (t_bsRaw) | exact t_move | exact t_add | fail) ?_ | fail))
    refine d_nil ?_
    refine q_open 24 201 (g := rawG 12 (row0 l i) (rows.map RowD.b)) (β := { r : RowD // r.ws = row0 l i ∧ r.b ∉ rows.map RowD.b }) (fun r => .pu (pSl eRaw [r.1.v])) (fun r => .gh (row1G 12 r.1)) (fun ⟨r, h1, h2, h3, h4⟩ => ⟨⟨r, h1, h4⟩, h2, h3⟩) ?_
    rintro ⟨r, hrw, hrn⟩
    refine q_op 8 (by kernel_rfl) rfl (t_appV 102 (hE := teRaw)) ?_
    refine q_name 25 102 fun pv1 => ?_
    refine q_op 9 (by kernel_rfl) rfl t_faB ?_
    refine q_st 10 101 (by kernel_rfl) rfl (t_stV 101 102) ?_
    refine q_nil ?_ (by kernel_rfl)
    refine c_gh2 200 201 200 (.gh (rowsG 12 (rows ++ [r]))) (rows_snoc hrn) ?_
    (repeat (first | refine c_reg ?_ | refine c_rnil ?_ | refine c_inBlock ?_ | refine c_op (by first | exact t_move | exact t_assign | exact t_add | fail) ?_ | fail))
    refine (ih (i + 1, pv1, rows ++ [r]) ⟨by dsimp only; omega, ?_⟩ (by dsimp only; omega)).sub ?_
    · dsimp only
      rw [List.map_append, hrows, List.range_succ, List.map_append, List.map_cons, List.map_nil, hrw]
      rfl
    · dsimp only
      rw [List.map_append, List.map_cons, List.map_nil]
      (repeat' (first | exact trivial | refine ⟨?_, ?_⟩ | fail)) <;> (try first | exact has_rfl rfl | exact has_nil rfl | exact has_nilS rfl | exact has_gr rfl | exact has_nilGo rfl | exact has_int rfl (by first | omega | fail) | fail)
  · have hi1 : i = c0 + 1 := by omega
    have hpar : rows.map RowD.ws = paras0 l := by rw [hrows, hi1]; unfold paras0; rw [← hc0', Int.toNat_natCast]
    (repeat (first | refine c_seq ?_ | refine c_reg ?_ | refine c_rnil ?_ | refine c_block ?_ | refine c_exit ?_ | refine c_false ?_ | refine c_op (by first | exact t_call (h := (pick_f (by omega))) | exact t_move | exact t_assign | exact t_leqF | fail) ?_ | fail))
    refine c_nilV eRaw 13 27 103 ?_
    refine c_gh 200 200 (.gh (rowsG 12 (rows ++ []))) (fun h => by rw [List.append_nil]; exact h) ?_
    refine c_loop (fun x : Nat × Value × Value × List RowD × List RowD => [(0, .pu (pSl eI l)), (2, .pu (pCe b2 0)), (100, .bx b2 15 [.slice none 0 0, .slice none 0 0] 25), (3, .pu (pCe b3 0)), (101, .bx b3 14 [x.2.1, x.2.2.1] 25), (102, .gv x.2.1 eRaw (x.2.2.2.1.map RowD.v) 11 27), (103, .gv x.2.2.1 eRaw (x.2.2.2.2.map RowD.v) 13 27), (200, .gh (rowsG 12 (x.2.2.2.1 ++ x.2.2.2.2))), (4, .pu (pI c1)), (6, .pu (pI x.1))])
      (fun x => x.1 ≤ c1 ∧ x.2.2.2.1.map RowD.ws = (textN l x.1).paras ∧ x.2.2.2.2.map RowD.ws = (textN l x.1).notes ∧ x.2.2.2.1.length ≤ 4 ∧ x.2.2.2.2.length ≤ x.1) (fun x => c1 - x.1) (0, pv0, .slice none 0 0, rows, []) ⟨by simp, hpar, rfl, by dsimp only; omega, by simp⟩ ?_ ?_
    · dsimp only
      rw [hc1']
      (repeat' (first | exact trivial | refine ⟨?_, ?_⟩ | fail)) <;> (try first | exact has_rfl rfl | exact has_nil rfl | exact has_nilS rfl | exact has_gr rfl | exact has_nilGo rfl | exact has_int rfl (by first | omega | fail) | fail)
    clear ih hrows hpar hrl hi hlt hi1
    rintro ⟨i, pv0, nv0, rows, nrows⟩ ⟨hi, hrows, hnrows, hrl, hnl⟩ ih
    dsimp only at hi hrows hnrows hrl hnl ih ⊢
    by_cases hlt : i < c1
    · have hp := pickM_bd l (6 + i) 1000000 (by omega)
      obtain ⟨n, hn⟩ : ∃ n, n = pickM l (6 + i) 1000000 := ⟨_, rfl⟩
      have hstep := textN_succ l i
      rw [← hn] at hstep hp
      have hpl : (textN l i).paras.length = rows.length := by rw [← hrows]; simp
      have hnl2 : (textN l i).notes.length = nrows.length := by rw [← hnrows]; simp
      (repeat (first | refine c_seq ?_ | refine c_reg ?_ | refine c_rnil ?_ | refine c_block ?_ | refine c_skip ?_ | refine c_true ?_ | refine c_op (by first | exact t_call (h := (pick_f (by omega))) | exact t_move | exact t_assign | exact t_add | exact t_lssT | fail) ?_ | fail))
      rw [← hn]
      refine c_loop (fun k : Nat => [(0, .pu (pSl eI l)), (2, .pu (pCe b2 0)), (100, .bx b2 15 [.slice none 0 0, .slice none 0 0] 25), (3, .pu (pCe b3 0)), (101, .bx b3 14 [pv0, nv0] 25), (102, .gv pv0 eRaw (rows.map RowD.v) 11 27), (103, .gv nv0 eRaw (nrows.map RowD.v) 13 27), (200, .gh (rowsG 12 (rows ++ nrows))), (4, .pu (pI c1)), (6, .pu (pI i)), (7, .pu (pI n)), (8, .pu (pI k))])
        (fun k => k ≤ rows.length ∧ findK (textN l i).paras 0 (textN l i).paras.length = findK (textN l i).paras k (rows.length - k)) (fun k => rows.length - k) 0 ⟨by omega, by rw [hpl]; rfl⟩ (by repeat (first | exact trivial | refine ⟨has_rfl rfl, ?_⟩ | fail)) fun k hk ih2 => ?_
      obtain ⟨hk, hfk⟩ := hk
      by_cases hlk : k < rows.length
      · have hget : ((textN l i).paras[k]?).getD [] = rows[k].ws := by
          rw [← hrows, List.getElem?_map, List.getElem?_eq_getElem hlk]; rfl
        have hlast : lastM (rows.map RowD.ws) k = lastM (textN l i).paras k := by rw [hrows]
        have hll : k < (rows.map RowD.v).length := by simpa using hlk
        have hlen1 : (rows.map RowD.v).length = rows.length := by simp
        have hlen2 : (nrows.map RowD.v).length = nrows.length := by simp
        have hka : k < (rows ++ nrows).length := by rw [List.length_append]; omega
        have hgetA : (rows ++ nrows)[k]'hka = rows[k] := List.getElem_append_left hlk
        rw [show rows.length - k = (rows.length - (k + 1)) + 1 by omega] at hfk
        (repeat (first | refine c_seq ?_ | fail))
        refine c_draw {} 20 3 [] [] mixed (by kernel_rfl) rfl rfl ?_
        (repeat (first | refine d_op (by first | exact (t_faB) | exact (t_loadB 101) | exact (t_lenNm 102) | exact t_move | exact t_lssT | fail) ?_ | refine d_yes (by first | exact (t_faB) | exact (t_loadB 101) | exact (t_lenNm 103) | exact (t_idxNm 102) | exact (t_ldRaw) | exact (t_last (k := k) 102 200) | exact t_move | exact t_add | fail) ?_ | fail))
        refine d_nil ?_
        rw [hlast]
        refine q_yesE 20 200 (by kernel_rfl) rfl (t_refer (i := k) 200 hka hp.1 (by rw [hgetA]; rfl)) fun _ => ?_
        refine q_yes 21 (by kernel_rfl) rfl t_not ?_
        rw [hgetA]
        cases hro : refOk rows[k].ws (lastM (textN l i).paras k)
        · rw [findK_next (by rw [hget, hro]; decide)] at hfk
          refine q_op 22 (by kernel_rfl) rfl t_pickT ?_
          refine q_nil ?_ (by kernel_rfl)
          (repeat (first | refine c_reg ?_ | refine c_rnil ?_ | refine c_block ?_ | refine c_inBlock ?_ | refine c_skip ?_ | refine c_true ?_ | refine c_op (by first | exact t_move | exact t_assign | exact t_add | fail) ?_ | fail))
          exact (ih2 (k + 1) ⟨by omega, hfk⟩ (by omega)).sub (by repeat (first | exact trivial | refine ⟨has_rfl rfl, ?_⟩ | fail))
        · rw [findK_all (by rw [hget, hro])] at hfk
          refine q_op 22 (by kernel_rfl) rfl t_pickT ?_
          refine q_nil ?_ (by kernel_rfl)
          have hset : (rows ++ nrows).set k (refRow rows[k] n ((nrows.map RowD.v).length + 1)) = rows.set k (refRow rows[k] n ((nrows.map RowD.v).length + 1)) ++ nrows := List.set_append_left _ _ hlk
          obtain ⟨rows', hrows'⟩ : ∃ r, r = rows.set k (refRow rows[k] n ((nrows.map RowD.v).length + 1)) := ⟨_, rfl⟩
          have hv' : rows.map RowD.v = rows'.map RowD.v := by rw [hrows']; exact (rset_same hlk (put_v _ _ _)).symm
          have pf := part_f (most := 12) hp.1 (by omega)
          rw [← hrows'] at hset
          (repeat (first | refine c_seq ?_ | refine c_reg ?_ | refine c_rnil ?_ | refine c_exit ?_ | refine c_true ?_ | refine c_false ?_ | refine c_op (by first | exact (t_faB) | exact (t_loadB 101) | exact (t_lenNm 102) | exact t_move | exact t_lssT | fail) ?_ | fail))
          refine c_gh 200 200 (g := rowsG 12 (if true = true then (rows ++ nrows).set k (refRow rows[k] n ((nrows.map RowD.v).length + 1)) else rows ++ nrows)) (.gh (rowsG 12 (rows' ++ nrows))) (fun h => by rw [if_pos rfl, hset] at h; exact h) ?_
          refine c_draw {} 5 3 [] [] mixed (by kernel_rfl) rfl rfl ?_
          (repeat (first | refine d_op (by first | exact (t_faB) | exact (t_loadB 101) | exact (t_callO 200 pf) | exact (t_bsRaw) | exact t_move | fail) ?_ | fail))
          refine d_nil ?_
          refine q_open 70 201 (g := rawG 12 (partM n 12) ((rows' ++ nrows).map RowD.b)) (β := { r : RowD // r.ws = partM n 12 ∧ r.b ∉ (rows' ++ nrows).map RowD.b }) (fun r => .pu (pSl eRaw [r.1.v])) (fun r => .gh (row1G 12 r.1)) (fun ⟨r, h1, h2, h3, h4⟩ => ⟨⟨r, h1, h4⟩, h2, h3⟩) ?_
          rintro ⟨r, hrw, hrn⟩
          refine q_op 5 (by kernel_rfl) rfl (t_appV 103 (hE := teRaw)) ?_
          refine q_name 71 103 fun nv1 => ?_
          refine q_op 6 (by kernel_rfl) rfl t_faB ?_
          refine q_st 7 101 (by kernel_rfl) rfl (t_stV 101 103) ?_
          refine q_nil ?_ (by kernel_rfl)
          refine c_gh2 200 201 200 (.gh (rowsG 12 ((rows' ++ nrows) ++ [r]))) (rows_snoc hrn) ?_
          (repeat (first | refine c_reg ?_ | refine c_rnil ?_ | refine c_inBlock ?_ | refine c_op (by first | exact t_move | exact t_assign | exact t_add | fail) ?_ | fail))
          have hns : noteStep (textN l i) n = ⟨(textN l i).paras.set k (putRef (((textN l i).paras[k]?).getD []) n ((textN l i).notes.length + 1)), (textN l i).notes ++ [partM n 12]⟩ := by
            unfold noteStep
            rw [hfk]
          refine (ih (i + 1, pv0, nv1, rows', nrows ++ [r]) ⟨by dsimp only; omega, ?_, ?_, ?_, ?_⟩ (by dsimp only; omega)).sub ?_
          · dsimp only
            rw [hstep, hns, hget, hrows', List.map_set, hrows]
            dsimp only
            rw [hlen2, ← hnl2]
            rfl
          · dsimp only
            rw [hstep, hns, List.map_append, hnrows]
            dsimp only
            rw [List.map_cons, List.map_nil, hrw]
          · dsimp only
            rw [hrows', List.length_set]; exact hrl
          · dsimp only
            rw [List.length_append, List.length_singleton]; omega
          · dsimp only
            rw [← hv', List.map_append, List.map_cons, List.map_nil, ← List.append_assoc]
            (repeat' (first | exact trivial | refine ⟨?_, ?_⟩ | fail)) <;> (try first | exact has_rfl rfl | exact has_nil rfl | exact has_nilS rfl | exact has_gr rfl | exact has_nilGo rfl | exact has_int rfl (by first | omega | fail) | fail)
      · have hkl : k = rows.length := by omega
        have hfn : findK (textN l i).paras 0 (textN l i).paras.length = none := by
          rw [hfk, show rows.length - k = 0 by omega]
          rfl
        have hlen1 : (rows.map RowD.v).length = rows.length := by simp
        have hns : noteStep (textN l i) n = textN l i := by
          unfold noteStep
          rw [hfn]
        (repeat (first | refine c_seq ?_ | fail))
        refine c_draw0 mixed (by kernel_rfl) ?_
        (repeat (first | refine d_op (by first | exact (t_faB) | exact (t_loadB 101) | exact (t_lenNm 102) | exact t_move | exact t_pickF | exact t_lssF | fail) ?_ | refine d_no ?_ | fail))
        refine d_nil (q_nil ?_ (by kernel_rfl))
        (repeat (first | refine c_seq ?_ | refine c_reg ?_ | refine c_rnil ?_ | refine c_inBlock ?_ | refine c_exit ?_ | refine c_skip ?_ | refine c_false ?_ | refine c_op (by first | exact (t_faB) | exact (t_loadB 101) | exact (t_lenNm 102) | exact t_move | exact t_assign | exact t_add | exact t_lssF | fail) ?_ | fail))
        refine (ih (i + 1, pv0, nv0, rows, nrows) ⟨by dsimp only; omega, ?_, ?_, hrl, by dsimp only; omega⟩ (by dsimp only; omega)).sub (by repeat (first | exact trivial | refine ⟨has_rfl rfl, ?_⟩ | fail))
        · dsimp only
          rw [hstep, hns, hrows]
        · dsimp only
          rw [hstep, hns, hnrows]
    · have hic : i = c1 := by omega
      have htm : textN l i = textM l := by unfold textM; rw [hic, ← hc1', Int.toNat_natCast]
      rw [htm] at hrows hnrows
      refine c_gvSl 102 fun o1 => ?_
      refine c_gvSl 103 fun o2 => ?_
      (repeat (first | refine c_seq ?_ | refine c_reg ?_ | refine c_rnil ?_ | refine c_exit ?_ | refine c_false ?_ | refine c_op (by first | exact (t_loadAgg 101 tdT) | exact t_move | exact t_lssF | fail) ?_ | fail))
      refine c_st 100 (t_stAg 100 tdT (c := [pv0, nv0]) (fun u hu => by
        simp only [List.mem_cons, List.not_mem_nil, or_false] at hu
        rcases hu with rfl | rfl
        · exact o1
        · exact o2)) ?_
      (repeat (first | refine c_rnil ?_ | fail))
      exact c_retTx Tryd.func8 rfl 100 102 103 200 hrows hnrows
end Go.Proofs.YtocoinkhbjlbhaaDoor
end

section
namespace Go.Proofs.YtocoinkhbjlbhaaDoor
open Go Go.RowKit
theorem wErr_note {w : Wd} {next n : Int} (h : wErr w next n = 0) (h0 : w.note ≠ 0) : w.note = next ∧ w.note ≤ n := by
  unfold wErr at h
  split at h
  · cases h
  · split at h
    · cases h
    · split at h
      · cases h
      · rename_i h3
        refine ⟨Classical.byContradiction fun hc => h3 ⟨h0, .inl hc⟩, ?_⟩
        by_cases hc : n < w.note
        · exact absurd ⟨h0, .inr hc⟩ h3
        · omega
theorem chkA_drop {n : Int} {K : Int → Int} {l : List (List Wd)} {i : Nat} (h : i < l.length) (next : Int) : chkA n K (l.drop i) next = chkP n (chkA n K (l.drop (i + 1))) l[i] next := by
  rw [List.drop_eq_getElem_cons h]; rfl
theorem chkP_drop {n : Int} {K : Int → Int} {l : List Wd} {i : Nat} (h : i < l.length) (next : Int) : chkP n K (l.drop i) next = if wErr l[i] next n ≠ 0 then wErr l[i] next n else chkP n K (l.drop (i + 1)) (if l[i].note ≠ 0 then next + 1 else next) := by
  rw [List.drop_eq_getElem_cons h]; rfl
theorem chkB_drop {K : Int} {l : List (List Wd)} {i : Nat} (h : i < l.length) : chkB K (l.drop i) = chkQ (chkB K (l.drop (i + 1))) l[i] := by
  rw [List.drop_eq_getElem_cons h]; rfl
theorem chkQ_drop {K : Int} {l : List Wd} {i : Nat} (h : i < l.length) : chkQ K (l.drop i) = if wErr l[i] 0 0 ≠ 0 then wErr l[i] 0 0 else chkQ K (l.drop (i + 1)) := by
  rw [List.drop_eq_getElem_cons h]; rfl
set_option maxHeartbeats 4000000 in
theorem checkR_f {t : Tx} : Fn Tryd.prog 33 [pV eText t] (pI (chkT t)) := by
  refine fn_of ent33 Tryd.func33 rfl Tryd.ntmps33 rfl fun M0 w0 => ?_
  obtain ⟨r, hr⟩ : ∃ r, r = chkT t := ⟨_, rfl⟩
  rw [← hr]
  by_cases hs : sizeM t = 0
  rotate_left
  · rw [show r = sizeM t by rw [hr]; unfold chkT; rw [if_pos hs]]
    (repeat (first | refine c_seq ?_ | refine c_reg ?_ | refine c_rnil ?_ | refine c_true ?_ | refine c_op (by first | exact t_call (h := sizes_f) | exact t_move | exact t_assign | exact t_neqT | exact t_load | exact t_boxP | fail) ?_ | fail))
    refine c_ret1 Tryd.func33 rfl ?_
    exact fun h => h
  obtain ⟨s1, s2, s3⟩ := size_ok hs
  rw [show chkT t = chkA t.notes.length (fun next => chkB (lastK t.notes.length next) t.notes) t.paras 1 by unfold chkT; rw [if_neg (fun h => h hs)]] at hr
  (repeat (first | refine c_seq ?_ | refine c_reg ?_ | refine c_rnil ?_ | refine c_block ?_ | refine c_skip ?_ | refine c_false ?_ | refine c_op (by first | exact t_call (h := sizes_f) | exact t_move | exact t_assign | exact t_neqF | exact t_load | exact t_boxP | fail) ?_ | fail))
  refine c_loop (fun x : Nat × Int => [(1, .pu (pPtr eText t)), (4, .pu (pI x.2)), (5, .pu (pI x.1))])
    (fun x => x.1 ≤ t.paras.length ∧ r = chkA t.notes.length (fun next => chkB (lastK t.notes.length next) t.notes) (t.paras.drop x.1) x.2 ∧ 1 ≤ x.2 ∧ x.2 ≤ t.notes.length + 1) (fun x => t.paras.length - x.1) (0, 1) ⟨by simp, hr, by simp, by simp; omega⟩ (by repeat (first | exact trivial | refine ⟨has_rfl rfl, ?_⟩ | fail)) ?_
  rintro ⟨i, next⟩ ⟨hi, hri, hn1, hn2⟩ ih
  dsimp only at hi hri hn1 hn2 ih ⊢
  by_cases hlt : i < t.paras.length
  · rw [chkA_drop hlt] at hri
    have hpl := s3 t.paras[i] (List.mem_append_left _ (List.getElem_mem _))
    (repeat (first | refine c_seq ?_ | refine c_reg ?_ | refine c_rnil ?_ | refine c_block ?_ | refine c_skip ?_ | refine c_true ?_ | refine c_op (by first | exact t_move | exact t_assign | exact t_lssT | exact t_len | exact t_load | exact t_fa | fail) ?_ | fail))
    refine c_loop (fun x : Nat × Int => [(1, .pu (pPtr eText t)), (4, .pu (pI x.2)), (5, .pu (pI i)), (6, .pu (pI x.1))])
      (fun x => x.1 ≤ t.paras[i].length ∧ r = chkP t.notes.length (chkA t.notes.length (fun next => chkB (lastK t.notes.length next) t.notes) (t.paras.drop (i + 1))) (t.paras[i].drop x.1) x.2 ∧ 1 ≤ x.2 ∧ x.2 ≤ t.notes.length + 1) (fun x => t.paras[i].length - x.1) (0, next) ⟨by simp, hri, hn1, hn2⟩ (by repeat (first | exact trivial | refine ⟨has_rfl rfl, ?_⟩ | fail)) ?_
    rintro ⟨k, nx⟩ ⟨hk, hrk, hk1, hk2⟩ ih2
    dsimp only at hk hrk hk1 hk2 ih2 ⊢
    by_cases hlk : k < t.paras[i].length
    · rw [chkP_drop hlk] at hrk
      by_cases he : wErr t.paras[i][k] nx t.notes.length = 0
      · rw [if_neg (fun h => h he)] at hrk
        by_cases hno : t.paras[i][k].note = 0
        · rw [if_neg (fun h => h hno)] at hrk
          (repeat (first | refine c_seq ?_ | refine c_reg ?_ | refine c_rnil ?_ | refine c_block ?_ | refine c_skip ?_ | refine c_true ?_ | refine c_op (by first | exact t_move | exact t_lssT | exact t_len | exact t_idxN | exact t_load | exact t_fa | fail) ?_ | fail))
          refine c_draw0 mixed (by kernel_rfl) ?_
          (repeat (first | refine d_op (by first | exact t_call (h := word_f) | exact t_move | exact t_assign | exact t_len | exact t_idxN | exact t_load | exact t_fa | fail) ?_ | fail))
          refine d_nil (q_nil ?_ (by kernel_rfl))
          (repeat (first | refine c_seq ?_ | refine c_reg ?_ | refine c_rnil ?_ | refine c_inBlock ?_ | refine c_skip ?_ | refine c_false ?_ | refine c_op (by first | exact t_move | exact t_assign | exact t_add | exact t_neqF | exact t_idxN | exact t_load | exact t_fa | fail) ?_ | fail))
          exact (ih2 (k + 1, nx) ⟨by dsimp only; omega, hrk, hk1, hk2⟩ (by dsimp only; omega)).sub (by repeat (first | exact trivial | refine ⟨has_rfl rfl, ?_⟩ | fail))
        · rw [if_pos hno] at hrk
          have := wErr_note he hno
          (repeat (first | refine c_seq ?_ | refine c_reg ?_ | refine c_rnil ?_ | refine c_block ?_ | refine c_skip ?_ | refine c_true ?_ | refine c_op (by first | exact t_move | exact t_lssT | exact t_len | exact t_idxN | exact t_load | exact t_fa | fail) ?_ | fail))
          refine c_draw0 mixed (by kernel_rfl) ?_
          (repeat (first | refine d_op (by first | exact t_call (h := word_f) | exact t_move | exact t_assign | exact t_len | exact t_idxN | exact t_load | exact t_fa | fail) ?_ | fail))
          refine d_nil (q_nil ?_ (by kernel_rfl))
          (repeat (first | refine c_seq ?_ | refine c_reg ?_ | refine c_rnil ?_ | refine c_inBlock ?_ | refine c_skip ?_ | refine c_true ?_ | refine c_false ?_ | refine c_op (by first | exact t_move | exact t_assign | exact t_add | exact t_neqT | exact t_neqF | exact t_idxN | exact t_load | exact t_fa | fail) ?_ | fail))
          exact (ih2 (k + 1, nx + 1) ⟨by dsimp only; omega, hrk, by dsimp only; omega, by dsimp only; omega⟩ (by dsimp only; omega)).sub (by repeat (first | exact trivial | refine ⟨has_rfl rfl, ?_⟩ | fail))
      · rw [if_pos he] at hrk
        rw [hrk]
        (repeat (first | refine c_seq ?_ | refine c_reg ?_ | refine c_rnil ?_ | refine c_block ?_ | refine c_skip ?_ | refine c_true ?_ | refine c_op (by first | exact t_move | exact t_lssT | exact t_len | exact t_idxN | exact t_load | exact t_fa | fail) ?_ | fail))
        refine c_draw0 mixed (by kernel_rfl) ?_
        (repeat (first | refine d_op (by first | exact t_call (h := word_f) | exact t_move | exact t_assign | exact t_len | exact t_idxN | exact t_load | exact t_fa | fail) ?_ | fail))
        refine d_nil (q_nil ?_ (by kernel_rfl))
        (repeat (first | refine c_seq ?_ | refine c_reg ?_ | refine c_rnil ?_ | refine c_true ?_ | refine c_op (by first | exact t_move | exact t_assign | exact t_neqT | fail) ?_ | fail))
        refine c_ret1 Tryd.func33 rfl ?_
        exact fun h => h
    · have hd : t.paras[i].drop k = [] := List.drop_of_length_le (by omega)
      rw [hd] at hrk
      simp only [chkP] at hrk
      (repeat (first | refine c_seq ?_ | refine c_reg ?_ | refine c_rnil ?_ | refine c_inBlock ?_ | refine c_exit ?_ | refine c_false ?_ | refine c_op (by first | exact t_move | exact t_assign | exact t_add | exact t_lssF | exact t_len | exact t_idxN | exact t_load | exact t_fa | fail) ?_ | fail))
      exact (ih (i + 1, nx) ⟨by dsimp only; omega, hrk, hk1, hk2⟩ (by dsimp only; omega)).sub (by repeat (first | exact trivial | refine ⟨has_rfl rfl, ?_⟩ | fail))
  · rw [List.drop_of_length_le (by omega)] at hri
    simp only [chkA] at hri
    (repeat (first | refine c_seq ?_ | refine c_reg ?_ | refine c_rnil ?_ | refine c_block ?_ | refine c_exit ?_ | refine c_false ?_ | refine c_op (by first | exact t_move | exact t_assign | exact t_lssF | exact t_len | exact t_load | exact t_fa | fail) ?_ | fail))
    refine c_loop (fun i : Nat => [(1, .pu (pPtr eText t)), (4, .pu (pI next)), (7, .pu (pI i))])
      (fun i => i ≤ t.notes.length ∧ r = chkB (lastK t.notes.length next) (t.notes.drop i)) (fun i => t.notes.length - i) 0 ⟨by simp, hri⟩ (by repeat (first | exact trivial | refine ⟨has_rfl rfl, ?_⟩ | fail)) fun i ⟨hi, hri⟩ ih => ?_
    by_cases hlt : i < t.notes.length
    · rw [chkB_drop hlt] at hri
      have hpl := s3 t.notes[i] (List.mem_append_right _ (List.getElem_mem _))
      (repeat (first | refine c_seq ?_ | refine c_reg ?_ | refine c_rnil ?_ | refine c_block ?_ | refine c_skip ?_ | refine c_true ?_ | refine c_op (by first | exact t_move | exact t_assign | exact t_lssT | exact t_len | exact t_load | exact t_fa | fail) ?_ | fail))
      refine c_loop (fun k : Nat => [(1, .pu (pPtr eText t)), (4, .pu (pI next)), (7, .pu (pI i)), (8, .pu (pI k))])
        (fun k => k ≤ t.notes[i].length ∧ r = chkQ (chkB (lastK t.notes.length next) (t.notes.drop (i + 1))) (t.notes[i].drop k)) (fun k => t.notes[i].length - k) 0 ⟨by simp, hri⟩ (by repeat (first | exact trivial | refine ⟨has_rfl rfl, ?_⟩ | fail)) fun k ⟨hk, hrk⟩ ih2 => ?_
      by_cases hlk : k < t.notes[i].length
      · rw [chkQ_drop hlk] at hrk
        by_cases he : wErr t.notes[i][k] 0 0 = 0
        · rw [if_neg (fun h => h he)] at hrk
          (repeat (first | refine c_seq ?_ | refine c_reg ?_ | refine c_rnil ?_ | refine c_block ?_ | refine c_inBlock ?_ | refine c_skip ?_ | refine c_true ?_ | refine c_false ?_ | refine c_op (by first | exact t_call (h := word_f) | exact t_move | exact t_assign | exact t_add | exact t_lssT | exact t_neqF | exact t_len | exact t_idxN | exact t_load | exact t_fa | fail) ?_ | fail))
          exact (ih2 (k + 1) ⟨by omega, hrk⟩ (by omega)).sub (by repeat (first | exact trivial | refine ⟨has_rfl rfl, ?_⟩ | fail))
        · rw [if_pos he] at hrk
          rw [hrk]
          (repeat (first | refine c_seq ?_ | refine c_reg ?_ | refine c_rnil ?_ | refine c_block ?_ | refine c_skip ?_ | refine c_true ?_ | refine c_op (by first | exact t_call (h := word_f) | exact t_move | exact t_assign | exact t_lssT | exact t_neqT | exact t_len | exact t_idxN | exact t_load | exact t_fa | fail) ?_ | fail))
          refine c_ret1 Tryd.func33 rfl ?_
          exact fun h => h
      · have hd : t.notes[i].drop k = [] := List.drop_of_length_le (by omega)
        rw [hd] at hrk
        simp only [chkQ] at hrk
        (repeat (first | refine c_seq ?_ | refine c_reg ?_ | refine c_rnil ?_ | refine c_inBlock ?_ | refine c_exit ?_ | refine c_false ?_ | refine c_op (by first | exact t_move | exact t_assign | exact t_add | exact t_lssF | exact t_len | exact t_idxN | exact t_load | exact t_fa | fail) ?_ | fail))
        exact (ih (i + 1) ⟨by omega, hrk⟩ (by omega)).sub (by repeat (first | exact trivial | refine ⟨has_rfl rfl, ?_⟩ | fail))
    · rw [List.drop_of_length_le (by omega)] at hri
      simp only [chkB] at hri
      rw [hri]
      unfold lastK
      by_cases hl : next = t.notes.length + 1
      · rw [if_neg (fun h => h hl)]
        (repeat (first | refine c_seq ?_ | refine c_reg ?_ | refine c_rnil ?_ | refine c_exit ?_ | refine c_skip ?_ | refine c_false ?_ | refine c_op (by first | exact t_move | exact t_assign | exact t_add | exact t_lssF | exact t_neqF | exact t_len | exact t_load | exact t_fa | fail) ?_ | fail))
        refine c_ret1 Tryd.func33 rfl ?_
        exact fun h => h
      · rw [if_pos hl]
        (repeat (first | refine c_seq ?_ | refine c_reg ?_ | refine c_rnil ?_ | refine c_exit ?_ | refine c_true ?_ | refine c_false ?_ | refine c_op (by first | exact t_move | exact t_assign | exact t_add | exact t_lssF | exact t_neqT | exact t_len | exact t_load | exact t_fa | fail) ?_ | fail))
        refine c_ret1 Tryd.func33 rfl ?_
        exact fun h => h
end Go.Proofs.YtocoinkhbjlbhaaDoor
end

section
namespace Go.Proofs.YtocoinkhbjlbhaaDoor
open Go Go.RowKit
def wErrB (b : Bool) (w : Wd) (next n : Int) : Int := if b = true then wErr w next n else wErr w 0 0
def chkX (b : Bool) (n : Int) (k : Int → Int) : List Wd → Int → Int
  | [], next => k next
  | w :: r, next => if wErrB b w next n ≠ 0 then wErrB b w next n else chkX b n k r (if w.note ≠ 0 then next + 1 else next)
def chkY (n : Int) (k : Int → Int) : List (List Wd) → Nat → Int → Int
  | [], _, next => k next
  | p :: r, m, next => chkX (decide (0 < m)) n (chkY n k r (m - 1)) p next
theorem chkX_true {n : Int} {k : Int → Int} : ∀ (l : List Wd) (next : Int), chkX true n k l next = chkP n k l next
  | [], next => rfl
  | w :: r, next => by simp only [chkX, chkP, wErrB, if_true, chkX_true r]
theorem wErr_zero {w : Wd} (h : wErr w 0 0 = 0) : w.note = 0 := by
  by_cases h0 : w.note = 0
  · exact h0
  · exact absurd (wErr_note h h0).1 h0
theorem chkX_false {n : Int} {k : Int → Int} : ∀ (l : List Wd) (next : Int), chkX false n k l next = chkQ (k next) l
  | [], next => rfl
  | w :: r, next => by
    simp only [chkX, chkQ, wErrB, Bool.false_eq_true, if_false]
    by_cases h : wErr w 0 0 = 0
    · simp only [h, wErr_zero h, ne_eq, not_true_eq_false, if_false]
      exact chkX_false r next
    · rw [if_pos h, if_pos h]
theorem chkY_zero {n : Int} {k : Int → Int} : ∀ (l : List (List Wd)) (next : Int), chkY n k l 0 next = chkB (k next) l
  | [], next => rfl
  | p :: r, next => by
    simp only [chkY, chkB, Nat.lt_irrefl, decide_false, chkX_false, Nat.zero_sub]
    rw [chkY_zero r next]
theorem chkX_congr {n : Int} {b : Bool} {k k' : Int → Int} (h : ∀ x, k x = k' x) : ∀ (l : List Wd) (next : Int), chkX b n k l next = chkX b n k' l next
  | [], next => h next
  | w :: r, next => by simp only [chkX, chkX_congr h r]
theorem chkY_paras {n : Int} {k : Int → Int} {ns : List (List Wd)} : ∀ (ps : List (List Wd)) (next : Int), chkY n k (ps ++ ns) ps.length next = chkA n (fun nx => chkB (k nx) ns) ps next
  | [], next => chkY_zero ns next
  | p :: r, next => by
    have e : decide (0 < (p :: r).length) = true := by simp
    simp only [List.cons_append, chkY, chkA]
    rw [e, ← chkX_true]
    refine chkX_congr (fun x => ?_) p next
    rw [List.length_cons, Nat.add_sub_cancel]
    exact chkY_paras r x
theorem chkT_eq {t : Tx} (hs : sizeM t = 0) : chkT t = chkY t.notes.length (lastK t.notes.length) (t.paras ++ t.notes) t.paras.length 1 := by
  rw [chkY_paras]
  unfold chkT
  rw [if_neg (fun h => h hs)]
theorem wErrB_7 {b : Bool} {w : Wd} {next n : Int} (h : ¬ 0 < widM w.s ∨ (w.key ≠ emp ∧ ¬ 0 < widM w.key)) : wErrB b w next n = 7 := by
  unfold wErrB wErr; simp only [if_pos h, ite_self]
theorem wErrB_5 {b : Bool} {w : Wd} {next n : Int} (h : ¬ (¬ 0 < widM w.s ∨ (w.key ≠ emp ∧ ¬ 0 < widM w.key))) (h2 : w.table ≠ 0 ∧ w.table ≠ 1) : wErrB b w next n = 5 := by
  unfold wErrB wErr; simp only [if_neg h, if_pos h2, ite_self]
theorem wErrB_0 {b : Bool} {w : Wd} {next n : Int} (h : ¬ (¬ 0 < widM w.s ∨ (w.key ≠ emp ∧ ¬ 0 < widM w.key))) (h2 : ¬ (w.table ≠ 0 ∧ w.table ≠ 1)) (h3 : w.note = 0) : wErrB b w next n = 0 := by
  unfold wErrB wErr; simp only [if_neg h, if_neg h2, h3, ne_eq, not_true_eq_false, false_and, if_false, ite_self]
theorem wErrB_n {b : Bool} {w : Wd} {next n : Int} (h : ¬ (¬ 0 < widM w.s ∨ (w.key ≠ emp ∧ ¬ 0 < widM w.key))) (h2 : ¬ (w.table ≠ 0 ∧ w.table ≠ 1)) (h3 : w.note ≠ 0) :
    wErrB b w next n = if b = false ∨ w.note ≠ next ∨ n < next then 5 else 0 := by
  have e1 : ∀ nx m : Int, wErr w nx m = if w.note ≠ 0 ∧ (w.note ≠ nx ∨ m < w.note) then 5 else 0 := fun nx m => by unfold wErr; rw [if_neg h, if_neg h2]
  unfold wErrB
  cases b
  · rw [if_neg (by decide), if_pos (.inl rfl), e1, if_pos ⟨h3, .inl h3⟩]
  · rw [if_pos rfl, e1]
    by_cases h4 : w.note = next
    · by_cases h5 : n < next
      · rw [if_pos ⟨h3, .inr (by omega)⟩, if_pos (.inr (.inr h5))]
      · rw [if_neg (fun q => q.2.elim (fun q => q h4) (fun q => h5 (by omega))), if_neg (by
          rintro (q | q | q)
          · cases q
          · exact q h4
          · exact h5 q)]
    · rw [if_pos ⟨h3, .inl h4⟩, if_pos (.inr (.inl h4))]
theorem wErrB_n5 {b : Bool} {w : Wd} {next n : Int} (h : ¬ (¬ 0 < widM w.s ∨ (w.key ≠ emp ∧ ¬ 0 < widM w.key))) (h2 : ¬ (w.table ≠ 0 ∧ w.table ≠ 1)) (h3 : w.note ≠ 0) (hc : b = false ∨ w.note ≠ next ∨ n < next) : wErrB b w next n = 5 := by
  rw [wErrB_n h h2 h3, if_pos hc]
theorem wErrB_n0 {b : Bool} {w : Wd} {next n : Int} (h : ¬ (¬ 0 < widM w.s ∨ (w.key ≠ emp ∧ ¬ 0 < widM w.key))) (h2 : ¬ (w.table ≠ 0 ∧ w.table ≠ 1)) (h3 : w.note ≠ 0) (hc : ¬ (b = false ∨ w.note ≠ next ∨ n < next)) : wErrB b w next n = 0 := by
  rw [wErrB_n h h2 h3, if_neg hc]
theorem concat2_f {a b : List (List Wd)} (h : (a.length + b.length) * 24 ≤ 140737488351232) : Fn Tryd.prog 39 [pSl (eSl (eSl eWord)) [a, b]] (pSl (eSl eWord) (a ++ b)) := by
  have := concatW_f (ls := [a, b]) (by simpa using h)
  simpa using this
theorem contains_y {f : FuncId} {q : List Wd → Bool} (hq : ∀ p, Fn Tryd.prog f [pSl eWord p] (pB (q p))) {l : List (List Wd)} {b : Bool} (h : l.any q = b) : Fn Tryd.prog 53 [pSl (eSl eWord) l, pv (.func (.func f) #[] #[])] (pB b) := h ▸ containsQ_f hq
theorem valid25_y {s : ByteArray} (h : 0 < widM s) : Fn Tryd.prog 56 [pS s] (pB true) := by
  have := valid25_f (s := s); rwa [decide_eq_true h] at this
theorem valid25_n {s : ByteArray} (h : ¬ 0 < widM s) : Fn Tryd.prog 56 [pS s] (pB false) := by
  have := valid25_f (s := s); rwa [decide_eq_false h] at this
set_option maxHeartbeats 8000000 in
theorem check25_f {t : Tx} (h48 : (t.paras.length + t.notes.length) * 24 ≤ 140737488351232) : Fn Tryd.prog 31 [pV eText t] (pI (chkT t)) := by
  refine fn_of ent31 Tryd.func31 rfl Tryd.ntmps31 rfl fun M0 w0 => ?_
  obtain ⟨r, hr⟩ : ∃ r, r = chkT t := ⟨_, rfl⟩
  rw [← hr]
  have top : ∀ c, sizeM t = c → c ≠ 0 → r = c := fun c h h0 => by rw [hr]; unfold chkT; rw [if_pos (by rw [h]; exact h0), h]
  by_cases h1 : 100 < t.paras.length
  · rw [top 2 (by unfold sizeM; rw [if_pos (.inl h1)]) (by decide)]
    (repeat (first | refine c_seq ?_ | refine c_reg ?_ | refine c_rnil ?_ | refine c_true ?_ | refine c_no ?_ | refine c_op (by first | exact t_call (h := (concat2_f h48)) | exact t_move | exact t_assign | exact t_pickT | exact t_gtrT | exact t_len | exact t_load | exact t_fa | exact t_bs | exact t_boxP | fail) ?_ | fail))
    refine c_ret1 Tryd.func31 rfl ?_
    exact fun h => h
  by_cases h2 : 100 < t.notes.length
  · rw [top 2 (by unfold sizeM; rw [if_pos (.inr h2)]) (by decide)]
    (repeat (first | refine c_seq ?_ | refine c_reg ?_ | refine c_rnil ?_ | refine c_true ?_ | refine c_yes ?_ | refine c_no ?_ | refine c_op (by first | exact t_call (h := (concat2_f h48)) | exact t_move | exact t_assign | exact t_pickT | exact t_pickF | exact t_gtrT | exact t_gtrF | exact t_len | exact t_load | exact t_fa | exact t_bs | exact t_boxP | fail) ?_ | fail))
    refine c_ret1 Tryd.func31 rfl ?_
    exact fun h => h
  have h12 : ¬ (100 < t.paras.length ∨ 100 < t.notes.length) := fun h => h.elim h1 h2
  by_cases h3 : longP (t.paras ++ t.notes) = true
  · rw [top 2 (by unfold sizeM; rw [if_neg h12, if_pos h3]) (by decide)]
    (repeat (first | refine c_seq ?_ | refine c_reg ?_ | refine c_rnil ?_ | refine c_true ?_ | refine c_yes ?_ | refine c_op (by first | exact t_call (h := (concat2_f h48)) | exact t_call (h := (contains_y (fun p => long_f) h3)) | exact t_move | exact t_assign | exact t_pickF | exact t_gtrF | exact t_len | exact t_load | exact t_fa | exact t_bs | exact t_boxP | fail) ?_ | fail))
    refine c_ret1 Tryd.func31 rfl ?_
    exact fun h => h
  have h3' : longP (t.paras ++ t.notes) = false := by simpa using h3
  by_cases h4 : noneP (t.paras ++ t.notes) = true
  · rw [top 1 (by unfold sizeM; rw [if_neg h12, if_neg h3, if_pos h4]) (by decide)]
    (repeat (first | refine c_seq ?_ | refine c_reg ?_ | refine c_rnil ?_ | refine c_skip ?_ | refine c_true ?_ | refine c_false ?_ | refine c_yes ?_ | refine c_op (by first | exact t_call (h := (concat2_f h48)) | exact t_call (h := (contains_y (fun p => long_f) h3')) | exact t_call (h := (contains_y (fun p => none_f) h4)) | exact t_move | exact t_assign | exact t_pickF | exact t_gtrF | exact t_len | exact t_load | exact t_fa | exact t_bs | exact t_boxP | fail) ?_ | fail))
    refine c_ret1 Tryd.func31 rfl ?_
    exact fun h => h
  have h4' : noneP (t.paras ++ t.notes) = false := by simpa using h4
  have hs : sizeM t = 0 := by unfold sizeM; rw [if_neg h12, if_neg h3, if_neg h4]
  obtain ⟨s1, s2, s3⟩ := size_ok hs
  rw [chkT_eq hs] at hr
  have hall : (t.paras ++ t.notes).length = t.paras.length + t.notes.length := List.length_append
  (repeat (first | refine c_seq ?_ | refine c_reg ?_ | refine c_rnil ?_ | refine c_block ?_ | refine c_skip ?_ | refine c_false ?_ | refine c_yes ?_ | refine c_op (by first | exact t_call (h := (concat2_f h48)) | exact t_call (h := (contains_y (fun p => long_f) h3')) | exact t_call (h := (contains_y (fun p => none_f) h4')) | exact t_move | exact t_assign | exact t_pickF | exact t_gtrF | exact t_len | exact t_load | exact t_fa | exact t_bs | exact t_boxP | fail) ?_ | fail))
  refine c_loop (fun x : Nat × Int => [(1, .pu (pPtr eText t)), (4, .pu (pI x.2)), (31, .pu (pSl (eSl eWord) (t.paras ++ t.notes))), (32, .pu (pI (t.paras ++ t.notes).length)), (33, .pu (pI x.1))])
    (fun x => x.1 ≤ (t.paras ++ t.notes).length ∧ r = chkY t.notes.length (lastK t.notes.length) ((t.paras ++ t.notes).drop x.1) (t.paras.length - x.1) (x.2 + 1) ∧ 0 ≤ x.2 ∧ x.2 ≤ t.notes.length) (fun x => (t.paras ++ t.notes).length - x.1) (0, 0) ⟨by simp, hr, by simp, by simp⟩ (by repeat (first | exact trivial | refine ⟨has_rfl rfl, ?_⟩ | fail)) ?_
  rintro ⟨i, c⟩ ⟨hi, hri, hn1, hn2⟩ ih
  dsimp only at hi hri hn1 hn2 ih ⊢
  by_cases hlt : i < (t.paras ++ t.notes).length
  · rw [List.drop_eq_getElem_cons hlt] at hri
    simp only [chkY] at hri
    have hpl := s3 _ (List.getElem_mem hlt)
    (repeat (first | refine c_seq ?_ | refine c_reg ?_ | refine c_rnil ?_ | refine c_block ?_ | refine c_skip ?_ | refine c_true ?_ | refine c_op (by first | exact t_move | exact t_assign | exact t_lssT | exact t_len | exact t_idxN | exact t_load | fail) ?_ | fail))
    refine c_loop (fun x : Nat × Int => [(1, .pu (pPtr eText t)), (4, .pu (pI x.2)), (5, .pu (pI i)), (31, .pu (pSl (eSl eWord) (t.paras ++ t.notes))), (32, .pu (pI (t.paras ++ t.notes).length)), (33, .pu (pI i)), (38, .pu (pSl eWord (t.paras ++ t.notes)[i])), (39, .pu (pI (t.paras ++ t.notes)[i].length)), (40, .pu (pI x.1))])
      (fun x => x.1 ≤ (t.paras ++ t.notes)[i].length ∧ r = chkX (decide (0 < t.paras.length - i)) t.notes.length (chkY t.notes.length (lastK t.notes.length) ((t.paras ++ t.notes).drop (i + 1)) (t.paras.length - i - 1)) ((t.paras ++ t.notes)[i].drop x.1) (x.2 + 1) ∧ 0 ≤ x.2 ∧ x.2 ≤ t.notes.length) (fun x => (t.paras ++ t.notes)[i].length - x.1) (0, c) ⟨by simp, hri, hn1, hn2⟩ (by repeat (first | exact trivial | refine ⟨has_rfl rfl, ?_⟩ | fail)) ?_
    rintro ⟨k, c⟩ ⟨hk, hrk, hk1, hk2⟩ ih2
    dsimp only at hk hrk hk1 hk2 ih2 ⊢
    by_cases hlk : k < (t.paras ++ t.notes)[i].length
    · rw [List.drop_eq_getElem_cons hlk] at hrk
      simp only [chkX] at hrk
      obtain ⟨w, hw⟩ : ∃ w, w = (t.paras ++ t.notes)[i][k] := ⟨_, rfl⟩
      rw [← hw] at hrk
      by_cases hb1 : ¬ 0 < widM w.s ∨ (w.key ≠ emp ∧ ¬ 0 < widM w.key)
      · rw [wErrB_7 hb1, if_pos (by decide)] at hrk
        rw [hrk]
        by_cases q1 : 0 < widM w.s
        · obtain ⟨q2, q3⟩ := hb1.resolve_left (fun h => h q1)
          subst hw
          (repeat (first | refine c_seq ?_ | refine c_reg ?_ | refine c_rnil ?_ | refine c_block ?_ | refine c_skip ?_ | refine c_true ?_ | refine c_yes ?_ | refine c_op (by first | exact t_call (h := (valid25_y q1)) | exact t_call (h := (valid25_n q3)) | exact ((t_neqStr).yes (by exact q2)) | exact t_move | exact t_assign | exact t_pickT | exact t_pickF | exact t_not | exact t_lssT | exact t_idxN | exact t_load | exact t_fa | exact t_allocV | fail) ?_ | refine c_stV ?_ | fail))
          refine c_ret1 Tryd.func31 rfl ?_
          exact fun h => h
        · subst hw
          (repeat (first | refine c_seq ?_ | refine c_reg ?_ | refine c_rnil ?_ | refine c_block ?_ | refine c_skip ?_ | refine c_true ?_ | refine c_no ?_ | refine c_noU ?_ | refine c_op (by first | exact t_call (h := (valid25_n q1)) | exact t_move | exact t_assign | exact t_pickT | exact t_not | exact t_lssT | exact t_idxN | exact t_load | exact t_fa | exact t_allocV | fail) ?_ | refine c_stV ?_ | fail))
          refine c_ret1 Tryd.func31 rfl ?_
          exact fun h => h
      · have q1 : 0 < widM w.s := Classical.byContradiction fun h => hb1 (.inl h)
        apply c_join [(1, .pu (pPtr eText t)), (4, .pu (pI c)), (5, .pu (pI i)), (31, .pu (pSl (eSl eWord) (t.paras ++ t.notes))), (32, .pu (pI (t.paras ++ t.notes).length)), (33, .pu (pI i)), (38, .pu (pSl eWord (t.paras ++ t.notes)[i])), (39, .pu (pI (t.paras ++ t.notes)[i].length)), (40, .pu (pI k)), (8, .pu (pPtr eWord w))]
        · intro meet
          by_cases q2 : w.key = emp
          · subst hw
            (repeat (first | refine c_seq ?_ | fail))
            refine c_reg ?_
            (repeat (first | refine c_seq ?_ | refine c_rnil ?_ | refine c_block ?_ | refine c_skip ?_ | refine c_true ?_ | refine c_op (by first | exact t_lssT | fail) ?_ | fail))
            (repeat (first | refine c_seq ?_ | fail))
            refine c_reg ?_
            (repeat (first | refine c_seq ?_ | refine c_rnil ?_ | refine c_op (by first | exact t_idxN | exact t_load | exact t_allocV | fail) ?_ | refine c_stV ?_ | fail))
            (repeat (first | refine c_seq ?_ | fail))
            refine c_reg ?_
            (repeat (first | refine c_seq ?_ | refine c_rnil ?_ | refine c_skip ?_ | refine c_false ?_ | refine c_yes ?_ | refine c_no ?_ | refine c_op (by first | exact t_call (h := (valid25_y q1)) | exact ((t_neqStr).no (by exact fun h => h q2)) | exact t_move | exact t_pickF | exact t_not | exact t_load | exact t_fa | fail) ?_ | fail))
            exact meet (by repeat (first | exact trivial | refine ⟨has_rfl rfl, ?_⟩ | fail))
          · have q3 : 0 < widM w.key := Classical.byContradiction fun h => hb1 (.inr ⟨q2, h⟩)
            subst hw
            (repeat (first | refine c_seq ?_ | fail))
            refine c_reg ?_
            (repeat (first | refine c_seq ?_ | refine c_rnil ?_ | refine c_block ?_ | refine c_skip ?_ | refine c_true ?_ | refine c_op (by first | exact t_lssT | fail) ?_ | fail))
            (repeat (first | refine c_seq ?_ | fail))
            refine c_reg ?_
            (repeat (first | refine c_seq ?_ | refine c_rnil ?_ | refine c_op (by first | exact t_idxN | exact t_load | exact t_allocV | fail) ?_ | refine c_stV ?_ | fail))
            (repeat (first | refine c_seq ?_ | fail))
            refine c_reg ?_
            (repeat (first | refine c_seq ?_ | refine c_rnil ?_ | refine c_skip ?_ | refine c_false ?_ | refine c_yes ?_ | refine c_op (by first | exact t_call (h := (valid25_y q1)) | exact t_call (h := (valid25_y q3)) | exact ((t_neqStr).yes (by exact q2)) | exact t_move | exact t_pickT | exact t_pickF | exact t_not | exact t_load | exact t_fa | fail) ?_ | fail))
            exact meet (by repeat (first | exact trivial | refine ⟨has_rfl rfl, ?_⟩ | fail))
        by_cases hb2 : w.table ≠ 0 ∧ w.table ≠ 1
        · rw [wErrB_5 hb1 hb2, if_pos (by decide)] at hrk
          rw [hrk]
          obtain ⟨q2, q3⟩ := hb2
          (repeat (first | refine c_seq ?_ | refine c_reg ?_ | refine c_rnil ?_ | refine c_true ?_ | refine c_yes ?_ | refine c_op (by first | exact t_move | exact t_assign | exact t_pickT | exact t_neqT | exact t_load | exact t_fa | fail) ?_ | fail))
          refine c_ret1 Tryd.func31 rfl ?_
          exact fun h => h
        apply c_join [(1, .pu (pPtr eText t)), (4, .pu (pI c)), (5, .pu (pI i)), (31, .pu (pSl (eSl eWord) (t.paras ++ t.notes))), (32, .pu (pI (t.paras ++ t.notes).length)), (33, .pu (pI i)), (38, .pu (pSl eWord (t.paras ++ t.notes)[i])), (39, .pu (pI (t.paras ++ t.notes)[i].length)), (40, .pu (pI k)), (8, .pu (pPtr eWord w))]
        · intro meet
          by_cases q2 : w.table = 0
          · (repeat (first | refine c_seq ?_ | fail))
            refine c_reg ?_
            (repeat (first | refine c_seq ?_ | refine c_rnil ?_ | refine c_skip ?_ | refine c_false ?_ | refine c_no ?_ | refine c_op (by first | exact t_move | exact t_pickF | exact t_neqF | exact t_load | exact t_fa | fail) ?_ | fail))
            exact meet (by repeat (first | exact trivial | refine ⟨has_rfl rfl, ?_⟩ | fail))
          · have q3 : w.table = 1 := Classical.byContradiction fun h => hb2 ⟨q2, h⟩
            (repeat (first | refine c_seq ?_ | fail))
            refine c_reg ?_
            (repeat (first | refine c_seq ?_ | refine c_rnil ?_ | refine c_skip ?_ | refine c_false ?_ | refine c_yes ?_ | refine c_op (by first | exact t_move | exact t_pickT | exact t_neqT | exact t_neqF | exact t_load | exact t_fa | fail) ?_ | fail))
            exact meet (by repeat (first | exact trivial | refine ⟨has_rfl rfl, ?_⟩ | fail))
        by_cases q4 : w.note = 0
        · rw [wErrB_0 hb1 hb2 q4, if_neg (by decide), if_neg (fun h => h q4)] at hrk
          (repeat (first | refine c_reg ?_ | refine c_rnil ?_ | refine c_inBlock ?_ | refine c_skip ?_ | refine c_false ?_ | refine c_op (by first | exact t_move | exact t_add | exact t_neqF | exact t_load | exact t_fa | fail) ?_ | fail))
          exact (ih2 (k + 1, c) ⟨by dsimp only; omega, hrk, hk1, hk2⟩ (by dsimp only; omega)).sub (by repeat (first | exact trivial | refine ⟨has_rfl rfl, ?_⟩ | fail))
        · by_cases q5 : t.paras.length ≤ i
          · rw [wErrB_n5 hb1 hb2 q4 (.inl (by simp; omega)), if_pos (by decide)] at hrk
            rw [hrk]
            (repeat (first | refine c_seq ?_ | refine c_reg ?_ | refine c_rnil ?_ | refine c_true ?_ | refine c_no ?_ | refine c_op (by first | exact t_move | exact t_assign | exact t_pickT | exact t_add | exact t_geqT | exact t_neqT | exact t_len | exact t_load | exact t_fa | fail) ?_ | fail))
            refine c_ret1 Tryd.func31 rfl ?_
            exact fun h => h
          by_cases q6 : w.note = c + 1
          · by_cases q7 : t.notes.length < c + 1
            · rw [wErrB_n5 hb1 hb2 q4 (.inr (.inr q7)), if_pos (by decide)] at hrk
              rw [hrk]
              (repeat (first | refine c_seq ?_ | refine c_reg ?_ | refine c_rnil ?_ | refine c_true ?_ | refine c_yes ?_ | refine c_op (by first | exact t_move | exact t_assign | exact t_pickF | exact t_add | exact t_gtrT | exact t_geqF | exact t_neqT | exact t_neqF | exact t_len | exact t_load | exact t_fa | fail) ?_ | fail))
              refine c_ret1 Tryd.func31 rfl ?_
              exact fun h => h
            · rw [wErrB_n0 hb1 hb2 q4 (by
                rintro (h | h | h)
                · simp at h; omega
                · exact h q6
                · exact q7 h), if_neg (fun h => h rfl), if_pos q4] at hrk
              (repeat (first | refine c_seq ?_ | refine c_reg ?_ | refine c_rnil ?_ | refine c_inBlock ?_ | refine c_skip ?_ | refine c_true ?_ | refine c_false ?_ | refine c_yes ?_ | refine c_op (by first | exact t_move | exact t_assign | exact t_pickF | exact t_add | exact t_gtrF | exact t_geqF | exact t_neqT | exact t_neqF | exact t_len | exact t_load | exact t_fa | fail) ?_ | fail))
              exact (ih2 (k + 1, c + 1) ⟨by dsimp only; omega, hrk, by dsimp only; omega, by dsimp only; omega⟩ (by dsimp only; omega)).sub (by repeat (first | exact trivial | refine ⟨has_rfl rfl, ?_⟩ | fail))
          · rw [wErrB_n5 hb1 hb2 q4 (.inr (.inl q6)), if_pos (by decide)] at hrk
            rw [hrk]
            (repeat (first | refine c_seq ?_ | refine c_reg ?_ | refine c_rnil ?_ | refine c_true ?_ | refine c_yes ?_ | refine c_no ?_ | refine c_op (by first | exact t_move | exact t_assign | exact t_pickT | exact t_pickF | exact t_add | exact t_geqF | exact t_neqT | exact t_len | exact t_load | exact t_fa | fail) ?_ | fail))
            refine c_ret1 Tryd.func31 rfl ?_
            exact fun h => h
    · have hd : (t.paras ++ t.notes)[i].drop k = [] := List.drop_of_length_le (by omega)
      rw [hd] at hrk
      simp only [chkX] at hrk
      (repeat (first | refine c_seq ?_ | refine c_reg ?_ | refine c_rnil ?_ | refine c_inBlock ?_ | refine c_exit ?_ | refine c_false ?_ | refine c_op (by first | exact t_move | exact t_add | exact t_lssF | fail) ?_ | fail))
      exact (ih (i + 1, c) ⟨by dsimp only; omega, hrk, hk1, hk2⟩ (by dsimp only; omega)).sub (by repeat (first | exact trivial | refine ⟨has_rfl rfl, ?_⟩ | fail))
  · have hd : (t.paras ++ t.notes).drop i = [] := List.drop_of_length_le (by omega)
    rw [hd] at hri
    simp only [chkY] at hri
    rw [hri]
    unfold lastK
    by_cases hl : c = t.notes.length
    · rw [if_neg (fun h => h (by omega))]
      (repeat (first | refine c_seq ?_ | refine c_reg ?_ | refine c_rnil ?_ | refine c_exit ?_ | refine c_skip ?_ | refine c_false ?_ | refine c_op (by first | exact t_move | exact t_assign | exact t_lssF | exact t_neqF | exact t_len | exact t_load | exact t_fa | fail) ?_ | fail))
      refine c_ret1 Tryd.func31 rfl ?_
      exact fun h => h
    · rw [if_pos (by omega)]
      (repeat (first | refine c_seq ?_ | refine c_reg ?_ | refine c_rnil ?_ | refine c_exit ?_ | refine c_true ?_ | refine c_false ?_ | refine c_op (by first | exact t_move | exact t_assign | exact t_lssF | exact t_neqT | exact t_len | exact t_load | exact t_fa | fail) ?_ | fail))
      refine c_ret1 Tryd.func31 rfl ?_
      exact fun h => h
end Go.Proofs.YtocoinkhbjlbhaaDoor
end

section
namespace Go.Proofs.YtocoinkhbjlbhaaDoor
open Go Go.RowKit
def badW (x : Int) : Bool := decide (x < 1) || decide (480 < x)
theorem bad_f {x : Int} : Fn Tryd.prog 86 [pI x] (pB (badW x)) := by
  refine fn_of ent86 Tryd.func86 rfl Tryd.ntmps86 rfl fun M0 w0 => ?_
  unfold badW
  by_cases h : x < 1
  · rw [decide_eq_true h, Bool.true_or]
    (repeat (first | refine c_seq ?_ | refine c_reg ?_ | refine c_rnil ?_ | refine c_no ?_ | refine c_op (by first | exact t_move | exact t_assign | exact t_pickT | exact t_lssT | fail) ?_ | fail))
    refine c_ret1 Tryd.func86 rfl ?_
    exact fun h => h
  · rw [decide_eq_false h, Bool.false_or]
    (repeat (first | refine c_seq ?_ | refine c_reg ?_ | refine c_rnil ?_ | refine c_yes ?_ | refine c_op (by first | exact t_move | exact t_assign | exact t_pickF | exact t_lssF | exact t_gtr | fail) ?_ | fail))
    refine c_ret1 Tryd.func86 rfl ?_
    exact fun h => h
def idxB : List Int → Int → Int
  | [], _ => -1
  | x :: r, i => if badW x then i else idxB r (i + 1)
theorem idxB_any : ∀ (l : List Int) (i : Int), 0 ≤ i → (0 ≤ idxB l i ↔ l.any badW = true)
  | [], i, _ => by simp [idxB]
  | x :: r, i, h => by
    simp only [idxB, List.any_cons, Bool.or_eq_true]
    split
    · rename_i hp; simp [hp, h]
    · rename_i hp; rw [idxB_any r (i + 1) (by omega)]; simp [hp]
theorem index_f {l : List Int} : Fn Tryd.prog 95 [pSl eI l, pv (.func (.func 86) #[] #[])] (pI (idxB l 0)) := by
  refine fn_of ent95 Tryd.func95 rfl Tryd.ntmps95 rfl fun M0 w0 => ?_
  refine c_have 0 (fun h => i_len26 h) fun hl => ?_
  (repeat (first | refine c_seq ?_ | refine c_reg ?_ | refine c_rnil ?_ | refine c_block ?_ | refine c_op (by first | exact t_move | exact t_assign | exact t_len | fail) ?_ | fail))
  refine c_loop (fun i : Nat => [(0, .pu (pSl eI l)), (1, .pu (pv (.func (.func 86) #[] #[]))), (7, .pu (pI l.length)), (8, .pu (pI i))]) (fun i => i ≤ l.length ∧ idxB l 0 = idxB (l.drop i) i) (fun i => l.length - i) 0 ⟨by omega, rfl⟩ (by repeat (first | exact trivial | refine ⟨has_rfl rfl, ?_⟩ | fail)) fun i ⟨hi, hx⟩ ih => ?_
  (repeat (first | refine c_seq ?_ | refine c_reg ?_ | refine c_rnil ?_ | refine c_op (by first | exact t_lss | fail) ?_ | fail))
  refine c_if (fun hlt => ?_) fun hge => ?_
  · have h1 : i < l.length := by omega
    rw [List.drop_eq_getElem_cons h1, idxB] at hx
    (repeat (first | refine c_seq ?_ | refine c_reg ?_ | refine c_rnil ?_ | refine c_block ?_ | refine c_skip ?_ | refine c_op (by first | exact (t_callv (h := bad_f)) | exact t_move | exact t_assign | exact t_idxN | exact t_load | fail) ?_ | fail))
    refine c_ifb (fun hb => ?_) fun hb => ?_
    · rw [if_pos hb] at hx
      rw [hx]
      (repeat (first | refine c_seq ?_ | refine c_reg ?_ | refine c_rnil ?_ | refine c_op (by first | exact t_move | exact t_assign | fail) ?_ | fail))
      refine c_ret1 Tryd.func95 rfl ?_
      exact fun h => h
    · rw [if_neg (by rw [hb]; exact Bool.false_ne_true)] at hx
      (repeat (first | refine c_reg ?_ | refine c_rnil ?_ | refine c_inBlock ?_ | refine c_skip ?_ | refine c_op (by first | exact t_move | exact t_add | fail) ?_ | fail))
      exact (ih (i + 1) ⟨by omega, by rw [hx]; rfl⟩ (by omega)).sub (by repeat (first | exact trivial | refine ⟨has_rfl rfl, ?_⟩ | fail))
  · have : i = l.length := by omega
    subst this
    rw [List.drop_length, idxB] at hx
    rw [hx]
    (repeat (first | refine c_seq ?_ | refine c_reg ?_ | refine c_rnil ?_ | refine c_exit ?_ | refine c_op (by first | exact t_assign | fail) ?_ | fail))
    refine c_ret1 Tryd.func95 rfl ?_
    exact fun h => h
theorem contains_f {l : List Int} : Fn Tryd.prog 85 [pSl eI l, pv (.func (.func 86) #[] #[])] (pB (l.any badW)) := by
  refine fn_of ent85 Tryd.func85 rfl Tryd.ntmps85 rfl fun M0 w0 => ?_
  have h := idxB_any l 0 (Int.le_refl _)
  cases hb : l.any badW with
  | true =>
    have h2 := h.2 hb
    (repeat (first | refine c_seq ?_ | refine c_reg ?_ | refine c_rnil ?_ | refine c_op (by first | exact t_call (h := index_f) | exact t_move | exact t_assign | exact t_geqT | fail) ?_ | fail))
    refine c_ret1 Tryd.func85 rfl ?_
    exact fun h => h
  | false =>
    have h2 : idxB l 0 < 0 := by
      rcases Int.lt_or_le (idxB l 0) 0 with h3 | h3
      · exact h3
      · rw [h.1 h3] at hb; cases hb
    (repeat (first | refine c_seq ?_ | refine c_reg ?_ | refine c_rnil ?_ | refine c_op (by first | exact t_call (h := index_f) | exact t_move | exact t_assign | exact t_geqF | fail) ?_ | fail))
    refine c_ret1 Tryd.func85 rfl ?_
    exact fun h => h
theorem chk26_eq (w : List Int) (m : Int) : chk26 w m = if 500 < (w.length : Int) then 2 else if m < 500 ∨ 2000 < m then 5 else if w.any badW then 5 else 0 := by
  unfold chk26 okW
  have : (w.any fun x => decide (x < 1) || decide (480 < x)) = w.any badW := rfl
  rw [this]
  cases w.any badW <;> simp
theorem check_f {w : List Int} {m : Int} : Fn Tryd.prog 62 [pSl eI w, pI m] (pI (chk26 w m)) := by
  refine fn_of ent62 Tryd.func62 rfl Tryd.ntmps62 rfl fun M0 w0 => ?_
  rw [chk26_eq]
  by_cases h1 : 500 < (w.length : Int)
  · rw [if_pos h1]
    (repeat (first | refine c_seq ?_ | refine c_reg ?_ | refine c_rnil ?_ | refine c_block ?_ | refine c_true ?_ | refine c_op (by first | exact t_move | exact t_assign | exact t_gtrT | exact t_len | fail) ?_ | fail))
    refine c_ret1 Tryd.func62 rfl ?_
    exact fun h => h
  rw [if_neg h1]
  by_cases h2 : m < 500
  · rw [if_pos (.inl h2)]
    (repeat (first | refine c_seq ?_ | refine c_reg ?_ | refine c_rnil ?_ | refine c_block ?_ | refine c_true ?_ | refine c_false ?_ | refine c_no ?_ | refine c_op (by first | exact t_move | exact t_assign | exact t_pickT | exact t_lssT | exact t_gtrF | exact t_len | fail) ?_ | fail))
    refine c_ret1 Tryd.func62 rfl ?_
    exact fun h => h
  by_cases h3 : 2000 < m
  · rw [if_pos (.inr h3)]
    (repeat (first | refine c_seq ?_ | refine c_reg ?_ | refine c_rnil ?_ | refine c_block ?_ | refine c_true ?_ | refine c_false ?_ | refine c_yes ?_ | refine c_op (by first | exact t_move | exact t_assign | exact t_pickF | exact t_lssF | exact t_gtrT | exact t_gtrF | exact t_len | fail) ?_ | fail))
    refine c_ret1 Tryd.func62 rfl ?_
    exact fun h => h
  rw [if_neg (by omega)]
  cases hb : w.any badW with
  | true =>
    rw [if_pos rfl]
    have hc := contains_f (l := w)
    rw [hb] at hc
    (repeat (first | refine c_seq ?_ | refine c_reg ?_ | refine c_rnil ?_ | refine c_block ?_ | refine c_true ?_ | refine c_false ?_ | refine c_yes ?_ | refine c_op (by first | exact t_call (h := hc) | exact t_move | exact t_assign | exact t_pickF | exact t_lssF | exact t_gtrF | exact t_len | fail) ?_ | fail))
    refine c_ret1 Tryd.func62 rfl ?_
    exact fun h => h
  | false =>
    rw [if_neg Bool.false_ne_true]
    have hc := contains_f (l := w)
    rw [hb] at hc
    (repeat (first | refine c_seq ?_ | refine c_reg ?_ | refine c_rnil ?_ | refine c_block ?_ | refine c_inBlock ?_ | refine c_skip ?_ | refine c_false ?_ | refine c_yes ?_ | refine c_op (by first | exact t_call (h := hc) | exact t_move | exact t_assign | exact t_pickF | exact t_lssF | exact t_gtrF | exact t_len | fail) ?_ | fail))
    refine c_ret1 Tryd.func62 rfl ?_
    exact fun h => h
theorem regular_f {w : List Int} {m : Int} : Fn Tryd.prog 83 [pSl eI w, pI m] (pI (chk26 w m)) := by
  refine fn_of ent83 Tryd.func83 rfl Tryd.ntmps83 rfl fun M0 w0 => ?_
  rw [chk26_eq]
  by_cases h1 : 500 < (w.length : Int)
  · rw [if_pos h1]
    (repeat (first | refine c_seq ?_ | refine c_reg ?_ | refine c_rnil ?_ | refine c_true ?_ | refine c_op (by first | exact t_move | exact t_assign | exact t_gtrT | exact t_len | fail) ?_ | fail))
    refine c_ret1 Tryd.func83 rfl ?_
    exact fun h => h
  rw [if_neg h1]
  by_cases h2 : m < 500
  · rw [if_pos (.inl h2)]
    (repeat (first | refine c_seq ?_ | refine c_reg ?_ | refine c_rnil ?_ | refine c_skip ?_ | refine c_true ?_ | refine c_false ?_ | refine c_no ?_ | refine c_op (by first | exact t_move | exact t_assign | exact t_pickT | exact t_lssT | exact t_gtrF | exact t_len | fail) ?_ | fail))
    refine c_ret1 Tryd.func83 rfl ?_
    exact fun h => h
  by_cases h3 : 2000 < m
  · rw [if_pos (.inr h3)]
    (repeat (first | refine c_seq ?_ | refine c_reg ?_ | refine c_rnil ?_ | refine c_skip ?_ | refine c_true ?_ | refine c_false ?_ | refine c_yes ?_ | refine c_op (by first | exact t_move | exact t_assign | exact t_pickF | exact t_lssF | exact t_gtrT | exact t_gtrF | exact t_len | fail) ?_ | fail))
    refine c_ret1 Tryd.func83 rfl ?_
    exact fun h => h
  rw [if_neg (by omega)]
  (repeat (first | refine c_seq ?_ | refine c_reg ?_ | refine c_rnil ?_ | refine c_block ?_ | refine c_skip ?_ | refine c_false ?_ | refine c_yes ?_ | refine c_op (by first | exact t_move | exact t_assign | exact t_pickF | exact t_lssF | exact t_gtrF | exact t_len | fail) ?_ | fail))
  refine c_loop (fun i : Nat => [(0, .pu (pSl eI w)), (5, .pu (pI i))]) (fun i => i ≤ w.length ∧ ∀ j (hj : j < w.length), j < i → badW w[j] = false) (fun i => w.length - i) 0 ⟨by omega, fun _ _ h => by omega⟩ (by repeat (first | exact trivial | refine ⟨has_rfl rfl, ?_⟩ | fail)) fun i ⟨hi, hpre⟩ ih => ?_
  (repeat (first | refine c_seq ?_ | refine c_reg ?_ | refine c_rnil ?_ | refine c_op (by first | exact t_move | exact t_lss | exact t_len | fail) ?_ | fail))
  refine c_if (fun hlt => ?_) fun hge => ?_
  · have h4 : i < w.length := by omega
    by_cases h5 : w[i] < 1
    · rw [if_pos (List.any_eq_true.2 ⟨w[i], List.getElem_mem h4, by simp [badW, h5]⟩)]
      (repeat (first | refine c_seq ?_ | refine c_reg ?_ | refine c_rnil ?_ | refine c_block ?_ | refine c_skip ?_ | refine c_true ?_ | refine c_no ?_ | refine c_op (by first | exact t_move | exact t_assign | exact t_pickT | exact t_lssT | exact t_idxN | exact t_load | fail) ?_ | fail))
      refine c_ret1 Tryd.func83 rfl ?_
      exact fun h => h
    by_cases h6 : 480 < w[i]
    · rw [if_pos (List.any_eq_true.2 ⟨w[i], List.getElem_mem h4, by simp [badW, h6]⟩)]
      (repeat (first | refine c_seq ?_ | refine c_reg ?_ | refine c_rnil ?_ | refine c_block ?_ | refine c_skip ?_ | refine c_true ?_ | refine c_yes ?_ | refine c_op (by first | exact t_move | exact t_assign | exact t_pickF | exact t_lssF | exact t_gtrT | exact t_idxN | exact t_load | fail) ?_ | fail))
      refine c_ret1 Tryd.func83 rfl ?_
      exact fun h => h
    (repeat (first | refine c_seq ?_ | refine c_reg ?_ | refine c_rnil ?_ | refine c_block ?_ | refine c_inBlock ?_ | refine c_skip ?_ | refine c_false ?_ | refine c_yes ?_ | refine c_op (by first | exact t_move | exact t_assign | exact t_pickF | exact t_add | exact t_lssF | exact t_gtrF | exact t_idxN | exact t_load | fail) ?_ | fail))
    refine (ih (i + 1) ⟨by omega, fun j hj hji => ?_⟩ (by omega)).sub (by repeat (first | exact trivial | refine ⟨has_rfl rfl, ?_⟩ | fail))
    rcases Nat.lt_or_ge j i with h | h
    · exact hpre j hj h
    · have : j = i := by omega
      subst this
      simp [badW, h5, h6]
  · have hany : ¬ w.any badW = true := fun hc => by
      obtain ⟨x, hx, hx2⟩ := List.any_eq_true.1 hc
      obtain ⟨j, hj, rfl⟩ := List.mem_iff_getElem.1 hx
      rw [hpre j hj (by omega)] at hx2
      cases hx2
    rw [if_neg hany]
    (repeat (first | refine c_seq ?_ | refine c_reg ?_ | refine c_rnil ?_ | refine c_exit ?_ | refine c_op (by first | exact t_assign | fail) ?_ | fail))
    refine c_ret1 Tryd.func83 rfl ?_
    exact fun h => h
theorem slk_bd {m : Int} : ∀ {l : List Int} {k : Nat}, l.length ≤ k → (∀ x ∈ l, 1 ≤ x ∧ x ≤ 480) → m + 6 - 486 * k ≤ slk m l ∧ slk m l ≤ m + 6
  | [], k, _, _ => by rw [slk_nil]; omega
  | x :: l, k, hk, h => by
    obtain ⟨k, rfl⟩ : ∃ j, k = j + 1 := ⟨k - 1, by simp at hk; omega⟩
    have h1 := h x (by simp)
    have := slk_bd (m := m - (x + 6)) (l := l) (k := k) (by simpa using hk) (fun y hy => h y (by simp [hy]))
    rw [slk_cons]
    omega
theorem slack_f {l : List Int} {m : Int} (hm : 0 ≤ m ∧ m ≤ 2000) (hl : l.length ≤ 500) (hw : ∀ x ∈ l, 1 ≤ x ∧ x ≤ 480) : Fn Tryd.prog 63 [pSl eI l, pI m] (pI (slk m l)) := by
  refine fn_of ent63 Tryd.func63 rfl Tryd.ntmps63 rfl fun M0 w0 => ?_
  (repeat (first | refine c_seq ?_ | refine c_reg ?_ | refine c_rnil ?_ | refine c_block ?_ | refine c_op (by first | exact t_move | exact t_assign | exact t_add | exact t_len | fail) ?_ | fail))
  refine c_loop (fun i : Nat => [(5, .pu (pI (slk m (l.take i)))), (10, .pu (pSl eI l)), (11, .pu (pI l.length)), (12, .pu (pI i))]) (fun i => i ≤ l.length) (fun i => l.length - i) 0 (by omega) ⟨has_int rfl (by rw [List.take_zero, slk_nil]), (by repeat (first | exact trivial | refine ⟨has_rfl rfl, ?_⟩ | fail))⟩ fun i hi ih => ?_
  (repeat (first | refine c_seq ?_ | refine c_reg ?_ | refine c_rnil ?_ | refine c_op (by first | exact t_lss | fail) ?_ | fail))
  refine c_if (fun hlt => ?_) fun hge => ?_
  · have h1 : i < l.length := by omega
    have h2 := slk_take_succ m l i h1
    have h3 := hw _ (List.getElem_mem h1)
    have h4 := slk_bd (m := m) (l := l.take i) (k := 500) (by rw [List.length_take]; omega) (fun x hx => hw x (List.mem_of_mem_take hx))
    (repeat (first | refine c_seq ?_ | refine c_reg ?_ | refine c_rnil ?_ | refine c_block ?_ | refine c_inBlock ?_ | refine c_skip ?_ | refine c_op (by first | exact t_move | exact t_assign | exact t_add | exact t_sub | exact t_idxN | exact t_load | fail) ?_ | fail))
    exact (ih (i + 1) (by omega) (by omega)).sub (by repeat (first | exact trivial | refine ⟨has_rfl rfl, ?_⟩ | refine ⟨has_int rfl (by first | omega | fail), ?_⟩))
  · have : i = l.length := by omega
    subst this
    rw [List.take_length]
    (repeat (first | refine c_seq ?_ | refine c_reg ?_ | refine c_rnil ?_ | refine c_exit ?_ | refine c_op (by first | exact t_move | exact t_assign | fail) ?_ | fail))
    refine c_ret1 Tryd.func63 rfl ?_
    exact fun h => h
theorem slackR_f {l : List Int} {m : Int} (hm : 0 ≤ m ∧ m ≤ 2000) (hl : l.length ≤ 500) (hw : ∀ x ∈ l, 1 ≤ x ∧ x ≤ 480) : Fn Tryd.prog 84 [pSl eI l, pI m] (pI (slk m l)) := by
  refine fn_of ent84 Tryd.func84 rfl Tryd.ntmps84 rfl fun M0 w0 => ?_
  (repeat (first | refine c_seq ?_ | refine c_reg ?_ | refine c_rnil ?_ | refine c_block ?_ | refine c_op (by first | exact (t_mul) | exact t_move | exact t_assign | exact t_sub | exact t_len | fail) ?_ | fail))
  refine c_loop (fun i : Nat => [(0, .pu (pSl eI l)), (5, .pu (pI (slk m (l.take i) + 6 * i - 6 * l.length))), (6, .pu (pI i))]) (fun i => i ≤ l.length) (fun i => l.length - i) 0 (by omega) ⟨has_rfl rfl, has_int rfl (by rw [List.take_zero, slk_nil]; omega), (by repeat (first | exact trivial | refine ⟨has_rfl rfl, ?_⟩ | fail))⟩ fun i hi ih => ?_
  (repeat (first | refine c_seq ?_ | refine c_reg ?_ | refine c_rnil ?_ | refine c_op (by first | exact t_move | exact t_lss | exact t_len | fail) ?_ | fail))
  refine c_if (fun hlt => ?_) fun hge => ?_
  · have h1 : i < l.length := by omega
    have h2 := slk_take_succ m l i h1
    have h3 := hw _ (List.getElem_mem h1)
    have h4 := slk_bd (m := m) (l := l.take i) (k := 500) (by rw [List.length_take]; omega) (fun x hx => hw x (List.mem_of_mem_take hx))
    (repeat (first | refine c_seq ?_ | refine c_reg ?_ | refine c_rnil ?_ | refine c_block ?_ | refine c_inBlock ?_ | refine c_skip ?_ | refine c_op (by first | exact t_move | exact t_assign | exact t_add | exact t_sub | exact t_idxN | exact t_load | fail) ?_ | fail))
    exact (ih (i + 1) (by omega) (by omega)).sub (by repeat (first | exact trivial | refine ⟨has_rfl rfl, ?_⟩ | refine ⟨has_int rfl (by first | omega | fail), ?_⟩))
  · have : i = l.length := by omega
    subst this
    rw [List.take_length, show slk m l + 6 * (l.length : Int) - 6 * l.length = slk m l by omega]
    (repeat (first | refine c_seq ?_ | refine c_reg ?_ | refine c_rnil ?_ | refine c_exit ?_ | refine c_op (by first | exact t_move | exact t_assign | fail) ?_ | fail))
    refine c_ret1 Tryd.func84 rfl ?_
    exact fun h => h
end Go.Proofs.YtocoinkhbjlbhaaDoor
end

section
namespace Go.Proofs.YtocoinkhbjlbhaaDoor
open Go Go.RowKit
theorem seg_mem {w : List Int} {a b : Int} : ∀ x ∈ seg w a b, x ∈ w := fun _ hx => List.mem_of_mem_drop (List.mem_of_mem_take hx)
theorem seg_len {w : List Int} {a b : Int} : (seg w a b).length ≤ w.length := by
  unfold seg
  rw [List.length_take, List.length_drop]
  omega
end Go.Proofs.YtocoinkhbjlbhaaDoor
end

section
namespace Go.Proofs.YtocoinkhbjlbhaaDoor
open Go Go.RowKit
theorem has_pu {G : TF} {t : Nat} {p q : Pub} (h : tlook G t = some (.pu p)) (e : p = q) : Has G t (.pu q) := e ▸ has_rfl h
theorem has_rwE {G : TF} {t : Nat} {α : Type} {E : Enc α} {b tag : Nat} {l l' : List α} {ty : TypeId} (h : tlook G t = some (.rw b tag E l ty)) (e : l = l') : Has G t (.rw b tag E l' ty) := e ▸ has_rfl h
section
variable {P : Program} {f : FuncId} {N : Nat} {M0 : Mut} {w0 : World} {R : Value → World → Prop} {G : TF} {k : List Item}
theorem c_scope {c : Code} (h : Rt P f N M0 w0 (.code c :: .inScope c :: k) G R) : Rt P f N M0 w0 (.code (.scope c) :: k) G R := ⟨fun hr hf => ⟨fun a ha => ((h.out hr hf).out a ha).step fun _ _ => .one step_scope⟩⟩
theorem c_inScope {c : Code} (h : Rt P f N M0 w0 k G R) : Rt P f N M0 w0 (.inScope c :: k) G R := ⟨fun hr hf => ⟨fun a ha => ((h.out hr hf).out a ha).step fun _ _ => .one step_inScope⟩⟩
end
section
variable {P : Program} {N : Nat} {G : TF} {d : Option Tmp} {ty : TypeId} {pos : String} {aft : Array Edge} {g : Option (Nat × Bool)}
theorem t_idxRN {α : Type} {E : Enc α} {x i : Operand} {b len tag : Nat} {l : List α} {t e : TypeId} {k : IntKind} {n : Nat} (key : Nat) (hx : topP G x = some (pSr b len) := by rfl) (hi : topP G i = some (pK k (n : Int)) := by rfl)
    (hg : tlook G key = some (.rw b tag E l e) := by rfl) (ht : USl P t e := by infer_instance) (hE : TEc P e E := by infer_instance) (h0 : n < len := by omega) :
    TOp P N ⟨d, .indexAddr t x i, ty, pos, aft, g⟩ G [] (.pu (pRo b E n)) := t_idxR key hx hi hg ht hE (by omega)
end
def rowC (m : Int) (w : List Int) (k : Nat) : List Int := List.replicate k 0 ++ (dpl m (w.drop k) k).map (·.1)
def rowE (m : Int) (w : List Int) (k : Nat) : List Int := List.replicate k 0 ++ (dpl m (w.drop k) k).map (·.2)
section
variable {m : Int} {w : List Int}
theorem rowC_len {k : Nat} (hk : k ≤ w.length) : (rowC m w k).length = w.length + 1 := by
  unfold rowC
  rw [List.length_append, List.length_replicate, List.length_map, dpl_len, List.length_drop]
  omega
theorem rowE_len {k : Nat} (hk : k ≤ w.length) : (rowE m w k).length = w.length + 1 := by
  unfold rowE
  rw [List.length_append, List.length_replicate, List.length_map, dpl_len, List.length_drop]
  omega
theorem dpl_at {k j : Nat} (hk : k ≤ w.length) (hj : j ≤ w.length - k) : (dpl m (w.drop k) k)[j]? = some (at26 (dpl m w 0) (k + j)) := by
  rw [at_drop m w k j hk]
  unfold at26
  have hl := dpl_len m (w.drop k) k
  rw [List.length_drop] at hl
  rw [List.getElem?_eq_getElem (by omega), Option.getD_some]
theorem rowC_get {k j : Nat} (hk : k ≤ j) (hj : j ≤ w.length) : (rowC m w k)[j]? = some (at26 (dpl m w 0) j).1 := by
  unfold rowC
  rw [List.getElem?_append_right (by simpa using hk), List.length_replicate, List.getElem?_map, dpl_at (by omega) (by omega), show k + (j - k) = j by omega]
  rfl
theorem rowE_get {k j : Nat} (hk : k ≤ j) (hj : j ≤ w.length) : (rowE m w k)[j]? = some (at26 (dpl m w 0) j).2 := by
  unfold rowE
  rw [List.getElem?_append_right (by simpa using hk), List.length_replicate, List.getElem?_map, dpl_at (by omega) (by omega), show k + (j - k) = j by omega]
  rfl
theorem dpl_head {i : Nat} (hi : i < w.length) : dpl m (w.drop i) i = at26 (dpl m w 0) i :: dpl m (w.drop (i + 1)) (i + 1 : Nat) := by
  have h0 := dpl_at (m := m) (w := w) (k := i) (j := 0) (by omega) (by omega)
  have hd := dpl_drop m (w.drop i) i 1 (by rw [List.length_drop]; omega)
  rw [List.drop_drop] at hd
  have hl := dpl_len m (w.drop i) i
  cases hc : dpl m (w.drop i) i with
  | nil => rw [hc] at hl; simp at hl
  | cons p r =>
    rw [hc] at h0 hd
    simp only [List.getElem?_cons_zero, Nat.add_zero, Option.some.injEq] at h0
    simp only [List.drop_succ_cons, List.drop_zero] at hd
    rw [h0, hd]
    rfl
theorem rowC_set {i : Nat} (hi : i < w.length) : (rowC m w (i + 1)).set i (at26 (dpl m w 0) i).1 = rowC m w i := by
  unfold rowC
  rw [dpl_head hi, List.map_cons, List.replicate_succ', List.append_assoc, List.set_append_right _ _ (by simp), List.length_replicate, Nat.sub_self]
  rfl
theorem rowE_set {i : Nat} (hi : i < w.length) : (rowE m w (i + 1)).set i (at26 (dpl m w 0) i).2 = rowE m w i := by
  unfold rowE
  rw [dpl_head hi, List.map_cons, List.replicate_succ', List.append_assoc, List.set_append_right _ _ (by simp), List.length_replicate, Nat.sub_self]
  rfl
theorem rowC_end : rowC m w w.length = List.replicate (w.length + 1) 0 := by
  unfold rowC
  rw [List.drop_length, dpl, List.replicate_succ']
  rfl
theorem rowE_end : rowE m w w.length = List.replicate (w.length + 1) 0 := by
  unfold rowE
  rw [List.drop_length, dpl, List.replicate_succ']
  rfl
theorem at_inn {i : Nat} (hi : i < w.length) : at26 (dpl m w 0) i = inn m (w.drop i) (dpl m (w.drop (i + 1)) (i + 1 : Nat)) (i + 1) (m + 6) (-1) 0 := by
  have := dpl_head (m := m) hi
  rw [List.drop_eq_getElem_cons hi, dpl] at this
  have := (List.cons.inj this).1
  rw [List.drop_eq_getElem_cons hi]
  exact this.symm
theorem inn_step {i kk : Nat} (hi : i + kk < w.length) {j s c e : Int} : inn m ((w.drop i).drop kk) ((dpl m (w.drop (i + 1)) (i + 1 : Nat)).drop kk) j s c e =
    if s - (w[i + kk] + 6) < 0 then (c, e)
    else if i + kk + 1 = w.length then (0, j)
    else if c < 0 ∨ (s - (w[i + kk] + 6)) * (s - (w[i + kk] + 6)) + (at26 (dpl m w 0) (i + 1 + kk)).1 ≤ c then
      inn m ((w.drop i).drop (kk + 1)) ((dpl m (w.drop (i + 1)) (i + 1 : Nat)).drop (kk + 1)) (j + 1) (s - (w[i + kk] + 6)) ((s - (w[i + kk] + 6)) * (s - (w[i + kk] + 6)) + (at26 (dpl m w 0) (i + 1 + kk)).1) j
    else inn m ((w.drop i).drop (kk + 1)) ((dpl m (w.drop (i + 1)) (i + 1 : Nat)).drop (kk + 1)) (j + 1) (s - (w[i + kk] + 6)) c e := by
  have h1 : (w.drop i).drop kk = w[i + kk] :: (w.drop i).drop (kk + 1) := by
    rw [List.drop_eq_getElem_cons (by rw [List.length_drop]; omega), List.getElem_drop]
  have hg := dpl_at (m := m) (w := w) (k := i + 1) (j := kk) (by omega) (by omega)
  have hl := dpl_len m (w.drop (i + 1)) (i + 1 : Nat)
  rw [List.length_drop] at hl
  obtain ⟨q1, q2⟩ := List.getElem?_eq_some_iff.1 hg
  have h2 : (dpl m (w.drop (i + 1)) (i + 1 : Nat)).drop kk = at26 (dpl m w 0) (i + 1 + kk) :: (dpl m (w.drop (i + 1)) (i + 1 : Nat)).drop (kk + 1) := by
    rw [List.drop_eq_getElem_cons q1, q2]
  rw [h1, h2, inn]
  have h3 : (w.drop i).drop (kk + 1) = [] ↔ i + kk + 1 = w.length := by
    rw [List.drop_drop, List.drop_eq_nil_iff]
    omega
  by_cases he : i + kk + 1 = w.length
  · rw [if_pos (h3.2 he), if_pos he]
  · rw [if_neg (fun h => he (h3.1 h)), if_neg he]
end
theorem at_bd {m : Int} (hm : 500 ≤ m ∧ m ≤ 2000) {w : List Int} (hw : ∀ x ∈ w, 1 ≤ x ∧ x ≤ 480) : ∀ (d j : Nat), j ≤ w.length → w.length ≤ j + d → 0 ≤ (at26 (dpl m w 0) j).1 ∧ (at26 (dpl m w 0) j).1 ≤ 4024036 * d
  | 0, j, h1, h2 => by
    have : j = w.length := by omega
    subst this
    have := dpl_at (m := m) (w := w) (k := w.length) (j := 0) (by omega) (by omega)
    rw [List.drop_length, dpl] at this
    simp only [List.getElem?_cons_zero, Option.some.injEq, Nat.add_zero] at this
    rw [← this]
    simp
  | d + 1, j, h1, h2 => by
    rcases Nat.eq_or_lt_of_le h1 with h | h
    · have := at_bd hm hw 0 j h1 (by omega)
      omega
    · have hB := at_best m hm.1 hw j h
      have hul : (w.drop j).length = w.length - j := List.length_drop
      have hlo := hB.lo
      have hhi := hB.hi
      obtain ⟨k, hk⟩ : ∃ k : Nat, (at26 (dpl m w 0) j).2 = ((j + k : Nat) : Int) := ⟨((at26 (dpl m w 0) j).2 - j).toNat, by omega⟩
      have heq := hB.eq
      have hfit := hB.fit
      rw [hk] at heq hfit
      rw [show (((j + k : Nat) : Int) - (j : Int)).toNat = k by omega] at heq hfit
      rw [cand_at m w j k h (by omega)] at heq
      split at heq
      · omega
      · have ih := at_bd hm hw d (j + k) (by omega) (by omega)
        have hsl := slk_bd (m := m) (l := (w.drop j).take k) (k := (w.drop j).length) (by rw [List.length_take]; omega) (fun x hx => hw x (List.mem_of_mem_drop (List.mem_of_mem_take hx)))
        have h3 := sq_nonneg (slk m ((w.drop j).take k))
        have h4 : slk m ((w.drop j).take k) * slk m ((w.drop j).take k) ≤ 4024036 := Int.le_trans (Int.mul_le_mul (show _ ≤ (2006 : Int) by omega) (show _ ≤ (2006 : Int) by omega) (by omega) (by omega)) (by decide)
        omega
theorem set_same {l : List Int} {i : Nat} {v : Int} (h : l[i]? = some v) : l.set i v = l := by
  apply List.ext_getElem?
  intro j
  rw [List.getElem?_set]
  split
  · rename_i hj
    subst hj
    obtain ⟨h1, _⟩ := List.getElem?_eq_some_iff.1 h
    rw [if_pos h1, h]
  · rfl
theorem rowC_zero {m : Int} {w : List Int} {i : Nat} (_hi : i < w.length) : (rowC m w (i + 1))[i]? = some 0 := by
  unfold rowC
  rw [List.getElem?_append_left (by simp)]
  simp
theorem rowE_zero {m : Int} {w : List Int} {i : Nat} (_hi : i < w.length) : (rowE m w (i + 1))[i]? = some 0 := by
  unfold rowE
  rw [List.getElem?_append_left (by simp)]
  simp
set_option maxRecDepth 8000 in
set_option maxHeartbeats 4000000 in
theorem ends_f {w : List Int} {m : Int} : Fn Tryd.prog 36 [pSl eI w, pI m] (pT2 (pSl eI (if chk26 w m = 0 then endsM w m else [])) (pI (chk26 w m))) := by
  refine fn_of ent36 Tryd.func36 rfl Tryd.ntmps36 rfl fun M0 w0 => ?_
  refine c_have 0 (fun h => i_len26 h) fun hl1 => ?_
  by_cases hchk : chk26 w m = 0
  case neg =>
    rw [if_neg hchk]
    (repeat (first | refine c_seq ?_ | refine c_reg ?_ | refine c_rnil ?_ | refine c_true ?_ | refine c_op (by first | exact t_call (h := check_f) | exact t_move | exact t_assign | exact t_neqT | fail) ?_ | fail))
    refine c_ret2 Tryd.func36 rfl ?_
    exact fun h1 h2 => ⟨_, _, rfl, by rw [show _ = _ from h1]; exact SlOf.nil _ _ _, h2⟩
  rw [if_pos hchk, hchk]
  obtain ⟨hn, hm1, hm2, hw⟩ := chk26_ok hchk
  (repeat (first | refine c_seq ?_ | refine c_reg ?_ | refine c_rnil ?_ | refine c_skip ?_ | refine c_false ?_ | refine c_op (by first | exact t_call (h := check_f) | exact t_move | exact t_assign | exact t_neqF | exact t_len | fail) ?_ | fail))
  refine c_draw0 mixed (by kernel_rfl) ?_
  (repeat (first | refine d_op (by first | exact t_move | exact t_add | fail) ?_ | fail))
  refine d_op (t_mk 1) ?_
  (repeat (first | refine d_op (by first | exact t_move | exact t_add | fail) ?_ | fail))
  refine d_op (t_mk 2) ?_
  (repeat (first | refine d_op (by first | exact t_assignO | fail) ?_ | fail))
  refine d_nil (q_nil ?_ (by kernel_rfl))
  refine c_row 8 100001 fun b1 => c_row 9 100002 fun b2 => ?_
  (repeat (first | refine c_seq ?_ | refine c_reg ?_ | refine c_rnil ?_ | refine c_block ?_ | refine c_op (by first | exact t_move | exact t_assign | exact t_sub | fail) ?_ | fail))
  refine c_loop (fun k : Nat => [(0, .pu (pSl eI w)), (1, .pu (pI m)), (7, .pu (pI w.length)), (8, .pu (pSr b1 (w.length + 1))), (9, .pu (pSr b2 (w.length + 1))), (10, .pu (pI ((k : Int) - 1))), (100001, .rw b1 1 eI (rowC m w k) 3), (100002, .rw b2 2 eI (rowE m w k) 3)])
    (fun k => k ≤ w.length) (fun k => k) w.length (Nat.le_refl _) ?_ fun k hk ih => ?_
  · (repeat' (first | exact trivial | refine ⟨?_, ?_⟩ | fail)) <;> (try first | exact has_rfl rfl | exact has_nil rfl | exact has_nilS rfl | exact has_gr rfl | exact has_int rfl (by first | omega | fail) | fail)
    · exact has_pu rfl (by simp [pSr])
    · exact has_pu rfl (by simp [pSr])
    · exact has_rwE rfl (by rw [rowC_end]; congr 1)
    · exact has_rwE rfl (by rw [rowE_end]; congr 1)
  (repeat (first | refine c_seq ?_ | refine c_reg ?_ | refine c_rnil ?_ | refine c_op (by first | exact t_move | exact t_geq | fail) ?_ | fail))
  refine c_if (fun hlt => ?_) fun hge => ?_
  · obtain ⟨i, rfl⟩ : ∃ i, k = i + 1 := ⟨k - 1, by omega⟩
    have hi : i < w.length := by omega
    have hCl := rowC_len (m := m) (w := w) (k := i + 1) hk
    have hEl := rowE_len (m := m) (w := w) (k := i + 1) hk
    refine c_to 10 (.pu (pI i)) (has_int rfl (by omega)) ?_
    (repeat (first | refine c_seq ?_ | refine c_reg ?_ | refine c_rnil ?_ | refine c_block ?_ | refine c_skip ?_ | refine c_label ?_ | refine c_scope ?_ | refine c_op (by first | exact t_move | exact t_assign | exact t_add | fail) ?_ | fail))
    refine c_loop (fun x : Nat × Int × Int × Int => [(0, .pu (pSl eI w)), (1, .pu (pI m)), (7, .pu (pI w.length)), (8, .pu (pSr b1 (w.length + 1))), (9, .pu (pSr b2 (w.length + 1))), (10, .pu (pI i)), (11, .pu (pI x.2.1)), (12, .pu (pI (i + 1 + x.1 : Nat))),
        (100001, .rw b1 1 eI ((rowC m w (i + 1)).set i x.2.2.1) 3), (100002, .rw b2 2 eI ((rowE m w (i + 1)).set i x.2.2.2) 3)])
      (fun x => i + x.1 < w.length ∧ x.2.1 ≤ m + 6 ∧ 0 ≤ x.2.1 ∧ (x.1 = 0 → x.2.1 = m + 6) ∧ (x.1 ≠ 0 → 0 ≤ x.2.2.1) ∧ inn m ((w.drop i).drop x.1) ((dpl m (w.drop (i + 1)) (i + 1 : Nat)).drop x.1) (i + 1 + x.1 : Nat) x.2.1 (if x.1 = 0 then -1 else x.2.2.1) x.2.2.2 = at26 (dpl m w 0) i)
      (fun x => w.length - x.1) (0, m + 6, 0, 0) ⟨hi, Int.le_refl _, by dsimp only; omega, fun _ => rfl, fun h => absurd rfl h, (at_inn hi).symm⟩ ?_ ?_
    · (repeat' (first | exact trivial | refine ⟨?_, ?_⟩ | fail)) <;> (try first | exact has_rfl rfl | exact has_nil rfl | exact has_nilS rfl | exact has_gr rfl | exact has_int rfl (by first | omega | fail) | fail)
      · exact has_rwE rfl (set_same (rowC_zero hi)).symm
      · exact has_rwE rfl (set_same (rowE_zero hi)).symm
    rintro ⟨kk, s, c, e⟩ ⟨hkk, hs1, hs2, hs3, hc0, hinn⟩ ihi
    dsimp only at hkk hs1 hs2 hs3 hc0 hinn ihi ⊢
    have hx := hw _ (List.getElem_mem hkk)
    rw [inn_step hkk] at hinn
    have hv1 : ((rowC m w (i + 1)).set i c)[i + 1 + kk]? = some (at26 (dpl m w 0) (i + 1 + kk)).1 := by
      rw [List.getElem?_set_ne (by omega)]
      exact rowC_get (by omega) (by omega)
    have hv2 : ((rowC m w (i + 1)).set i c)[i]? = some c := List.getElem?_set_self (by omega)
    have hbd := at_bd ⟨hm1, hm2⟩ hw 500 (i + 1 + kk) (by omega) (by omega)
    by_cases hneg : s - (w[i + kk] + 6) < 0
    · rw [if_pos hneg] at hinn
      have hk0 : kk ≠ 0 := fun h => by have := hs3 h; omega
      rw [if_neg hk0] at hinn
      (repeat (first | refine c_seq ?_ | refine c_reg ?_ | refine c_rnil ?_ | refine c_block ?_ | refine c_inBlock ?_ | refine c_exit ?_ | refine c_true ?_ | refine c_inScope ?_ | refine c_op (by first | exact (t_idxE (n := i + kk) (hm := by omega)) | exact t_move | exact t_assign | exact t_add | exact t_sub | exact t_lssT | exact t_load | fail) ?_ | fail))
      refine (ih i (by omega) (by omega)).sub ?_
      (repeat' (first | exact trivial | refine ⟨?_, ?_⟩ | fail)) <;> (try first | exact has_rfl rfl | exact has_nil rfl | exact has_nilS rfl | exact has_gr rfl | exact has_int rfl (by first | omega | fail) | fail)
      · exact has_rwE rfl (by rw [← rowC_set hi, ← hinn])
      · exact has_rwE rfl (by rw [← rowE_set hi, ← hinn])
    rw [if_neg hneg] at hinn
    by_cases hend : i + kk + 1 = w.length
    · rw [if_pos hend] at hinn
      (repeat (first | refine c_seq ?_ | refine c_reg ?_ | refine c_rnil ?_ | refine c_block ?_ | refine c_inBlock ?_ | refine c_exit ?_ | refine c_true ?_ | refine c_false ?_ | refine c_inScope ?_ | refine (c_st 100001 (t_st 100001)) ?_ | refine (c_st 100002 (t_st 100002)) ?_ | refine c_op (by first | exact (t_idxE (n := i + kk) (hm := by omega)) | exact (t_idxRN 100001) | exact (t_idxRN 100002) | exact t_move | exact t_assign | exact t_add | exact t_sub | exact t_lssF | exact t_eqlT | exact t_load | fail) ?_ | fail))
      refine (ih i (by omega) (by omega)).sub ?_
      (repeat' (first | exact trivial | refine ⟨?_, ?_⟩ | fail)) <;> (try first | exact has_rfl rfl | exact has_nil rfl | exact has_nilS rfl | exact has_gr rfl | exact has_int rfl (by first | omega | fail) | fail)
      · exact has_rwE rfl (by rw [← rowC_set hi, ← hinn, List.set_set])
      · exact has_rwE rfl (by rw [← rowE_set hi, ← hinn, List.set_set]; congr 1; omega)
    rw [if_neg hend] at hinn
    have hsq0 := sq_nonneg (s - (w[i + kk] + 6))
    have hsq1 : (s - (w[i + kk] + 6)) * (s - (w[i + kk] + 6)) ≤ 4024036 := Int.le_trans (Int.mul_le_mul (show _ ≤ (2006 : Int) by omega) (show _ ≤ (2006 : Int) by omega) (by omega) (by omega)) (by decide)
    have e1 : ((i + 1 + kk : Nat) : Int) + 1 = ((i + 1 + (kk + 1) : Nat) : Int) := by omega
    by_cases hup : kk = 0 ∨ (s - (w[i + kk] + 6)) * (s - (w[i + kk] + 6)) + (at26 (dpl m w 0) (i + 1 + kk)).1 ≤ c
    · rw [if_pos (by
        rcases hup with h | h
        · exact .inl (by rw [if_pos h]; omega)
        · by_cases h0 : kk = 0
          · exact .inl (by rw [if_pos h0]; omega)
          · exact .inr (by rw [if_neg h0]; exact h)), e1] at hinn
      by_cases h0 : kk = 0
      · (repeat (first | refine c_seq ?_ | refine c_reg ?_ | refine c_rnil ?_ | refine c_block ?_ | refine c_false ?_ | refine c_op (by first | exact (t_idxE (n := i + kk) (hm := by omega)) | exact t_move | exact t_assign | exact t_add | exact t_sub | exact t_lssF | exact t_eqlF | exact t_load | fail) ?_ | fail))
        refine c_draw0 mixed (by kernel_rfl) ?_
        (repeat (first | refine d_op (by first | exact t_move | exact t_assign | exact t_pickT | exact t_add | exact t_eqlT | fail) ?_ | refine d_no ?_ | fail))
        refine d_nil (q_nil ?_ (by kernel_rfl))
        (repeat (first | refine c_reg ?_ | refine c_rnil ?_ | refine c_inBlock ?_ | refine c_true ?_ | refine (c_st 100001 (t_st 100001)) ?_ | refine (c_st 100002 (t_st 100002)) ?_ | refine c_op (by first | exact (t_mul) | exact (t_idxRN 100001) | exact (t_idxRN 100002) | exact (t_loadRE 100001 (hv := hv1)) | exact t_move | exact t_assign | exact t_add | fail) ?_ | fail))
        refine (ihi (kk + 1, s - (w[i + kk] + 6), (s - (w[i + kk] + 6)) * (s - (w[i + kk] + 6)) + (at26 (dpl m w 0) (i + 1 + kk)).1, ((i + 1 + kk : Nat) : Int)) ⟨by dsimp only; omega, by dsimp only; omega, by dsimp only; omega, fun h => absurd h (Nat.succ_ne_zero kk), fun _ => by dsimp only; omega, by rw [← hinn, if_neg (Nat.succ_ne_zero kk)]⟩ (by dsimp only; omega)).sub ?_
        (repeat' (first | exact trivial | refine ⟨?_, ?_⟩ | fail)) <;> (try first | exact has_rfl rfl | exact has_nil rfl | exact has_nilS rfl | exact has_gr rfl | exact has_int rfl (by first | omega | fail) | fail)
        · exact has_rwE rfl (by rw [List.set_set])
        · exact has_rwE rfl (by rw [List.set_set])
      · have hle := hup.resolve_left h0
        (repeat (first | refine c_seq ?_ | refine c_reg ?_ | refine c_rnil ?_ | refine c_block ?_ | refine c_false ?_ | refine c_op (by first | exact (t_idxE (n := i + kk) (hm := by omega)) | exact t_move | exact t_assign | exact t_add | exact t_sub | exact t_lssF | exact t_eqlF | exact t_load | fail) ?_ | fail))
        refine c_draw0 mixed (by kernel_rfl) ?_
        (repeat (first | refine d_op (by first | exact t_move | exact t_assign | exact t_pickF | exact t_add | exact t_eqlF | fail) ?_ | refine d_yes (by first | exact (t_mul) | exact (t_idxRN 100001) | exact (t_loadRE 100001 (hv := hv1)) | exact (t_loadRE 100001 (hv := hv2)) | exact t_move | exact t_add | exact t_leqT | fail) ?_ | fail))
        refine d_nil (q_nil ?_ (by kernel_rfl))
        (repeat (first | refine c_reg ?_ | refine c_rnil ?_ | refine c_inBlock ?_ | refine c_true ?_ | refine (c_st 100001 (t_st 100001)) ?_ | refine (c_st 100002 (t_st 100002)) ?_ | refine c_op (by first | exact (t_mul) | exact (t_idxRN 100001) | exact (t_idxRN 100002) | exact (t_loadRE 100001 (hv := hv1)) | exact t_move | exact t_assign | exact t_add | fail) ?_ | fail))
        refine (ihi (kk + 1, s - (w[i + kk] + 6), (s - (w[i + kk] + 6)) * (s - (w[i + kk] + 6)) + (at26 (dpl m w 0) (i + 1 + kk)).1, ((i + 1 + kk : Nat) : Int)) ⟨by dsimp only; omega, by dsimp only; omega, by dsimp only; omega, fun h => absurd h (Nat.succ_ne_zero kk), fun _ => by dsimp only; omega, by rw [← hinn, if_neg (Nat.succ_ne_zero kk)]⟩ (by dsimp only; omega)).sub ?_
        (repeat' (first | exact trivial | refine ⟨?_, ?_⟩ | fail)) <;> (try first | exact has_rfl rfl | exact has_nil rfl | exact has_nilS rfl | exact has_gr rfl | exact has_int rfl (by first | omega | fail) | fail)
        · exact has_rwE rfl (by rw [List.set_set])
        · exact has_rwE rfl (by rw [List.set_set])
    · have h0 : kk ≠ 0 := fun h => hup (.inl h)
      have hgt : c < (s - (w[i + kk] + 6)) * (s - (w[i + kk] + 6)) + (at26 (dpl m w 0) (i + 1 + kk)).1 := by
        have : ¬ _ := fun h => hup (.inr h)
        omega
      have hc0 := hc0 h0
      rw [if_neg (by rw [if_neg h0]; omega), if_neg h0, e1] at hinn
      (repeat (first | refine c_seq ?_ | refine c_reg ?_ | refine c_rnil ?_ | refine c_block ?_ | refine c_false ?_ | refine c_op (by first | exact (t_idxE (n := i + kk) (hm := by omega)) | exact t_move | exact t_assign | exact t_add | exact t_sub | exact t_lssF | exact t_eqlF | exact t_load | fail) ?_ | fail))
      refine c_draw0 mixed (by kernel_rfl) ?_
      (repeat (first | refine d_op (by first | exact t_move | exact t_assign | exact t_pickF | exact t_add | exact t_eqlF | fail) ?_ | refine d_yes (by first | exact (t_mul) | exact (t_idxRN 100001) | exact (t_loadRE 100001 (hv := hv1)) | exact (t_loadRE 100001 (hv := hv2)) | exact t_move | exact t_add | exact t_leqF | fail) ?_ | fail))
      refine d_nil (q_nil ?_ (by kernel_rfl))
      (repeat (first | refine c_reg ?_ | refine c_rnil ?_ | refine c_inBlock ?_ | refine c_skip ?_ | refine c_false ?_ | refine c_op (by first | exact t_move | exact t_assign | exact t_add | fail) ?_ | fail))
      exact (ihi (kk + 1, s - (w[i + kk] + 6), c, e) ⟨by dsimp only; omega, by dsimp only; omega, by dsimp only; omega, fun h => absurd h (Nat.succ_ne_zero kk), fun _ => hc0, by rw [← hinn, if_neg (Nat.succ_ne_zero kk)]⟩ (by dsimp only; omega)).sub (by repeat (first | exact trivial | refine ⟨has_rfl rfl, ?_⟩ | fail))
  have hk0 : k = 0 := by omega
  subst hk0
  (repeat (first | refine c_seq ?_ | refine c_reg ?_ | refine c_rnil ?_ | refine c_block ?_ | refine c_exit ?_ | refine c_op (by first | exact t_assign | fail) ?_ | fail))
  refine c_loop (fun x : Nat × List Int × Nat => [(7, .pu (pI w.length)), (9, .pu (pSr b2 (w.length + 1))), (13, .gr eI x.2.1 3 3), (14, .pu (pI x.1)), (100002, .rw b2 2 eI (rowE m w 0) 3)])
    (fun x => x.1 ≤ w.length ∧ w.length < x.1 + x.2.2 ∧ x.2.1.length ≤ x.1 ∧ endsM w m = x.2.1 ++ walkE (dpl m w 0) w.length x.2.2 x.1) (fun x => x.2.2) (0, [], w.length + 1) ⟨Nat.zero_le _, by dsimp only; omega, by simp, rfl⟩ (by repeat (first | exact trivial | refine ⟨has_rfl rfl, ?_⟩ | refine ⟨has_nil rfl, ?_⟩ | fail)) ?_
  rintro ⟨a, out, f⟩ ⟨ha, hf, ho, hends⟩ ih
  dsimp only at ha hf ho hends ih ⊢
  (repeat (first | refine c_seq ?_ | refine c_reg ?_ | refine c_rnil ?_ | refine c_op (by first | exact t_move | exact t_lss | fail) ?_ | fail))
  refine c_if (fun hlt => ?_) fun hge2 => ?_
  · have ha2 : a < w.length := by omega
    obtain ⟨f, rfl⟩ : ∃ g, f = g + 1 := ⟨f - 1, by omega⟩
    have hB := at_best m hm1 hw a ha2
    have hul : (w.drop a).length = w.length - a := List.length_drop
    have h1 := hB.lo
    have h2 := hB.hi
    rw [walkE_cons (by omega)] at hends
    obtain ⟨a', ha'⟩ : ∃ a' : Nat, (at26 (dpl m w 0) a).2 = (a' : Int) := ⟨(at26 (dpl m w 0) a).2.toNat, by omega⟩
    have hv := rowE_get (m := m) (w := w) (k := 0) (j := a) (by omega) (by omega)
    rw [ha'] at hends hv h1 h2
    (repeat (first | refine c_seq ?_ | refine c_reg ?_ | refine c_rnil ?_ | refine c_block ?_ | refine c_inBlock ?_ | refine c_skip ?_ | refine c_op (by first | exact (t_idxRN 100002) | exact (t_loadRE 100002 (hv := hv)) | exact t_moveG | exact t_move | exact t_assignG | exact t_assign | exact t_bs | fail) ?_ | refine c_opW t_app ?_ | fail))
    exact (ih (a', out ++ [(a' : Int)], f) ⟨by dsimp only; omega, by dsimp only; omega, by rw [List.length_append, List.length_singleton]; dsimp only; omega, by rw [hends, List.append_assoc]; rfl⟩ (by dsimp only; omega)).sub (by repeat (first | exact trivial | refine ⟨has_rfl rfl, ?_⟩ | fail))
  · have hae : a = w.length := by omega
    obtain ⟨f, rfl⟩ : ∃ g, f = g + 1 := ⟨f - 1, by omega⟩
    rw [walkE, if_neg (by omega), List.append_nil] at hends
    rw [hends]
    (repeat (first | refine c_seq ?_ | refine c_reg ?_ | refine c_rnil ?_ | refine c_exit ?_ | refine c_op (by first | exact t_moveG | exact t_assignG | exact t_assign | fail) ?_ | fail))
    refine c_ret2 Tryd.func36 rfl ?_
    exact fun h1 h2 => ⟨_, _, rfl, h1, h2⟩
end Go.Proofs.YtocoinkhbjlbhaaDoor
end
