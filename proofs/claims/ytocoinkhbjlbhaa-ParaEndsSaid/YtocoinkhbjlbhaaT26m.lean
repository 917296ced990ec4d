/-
  A copy of a list of numbers by append([]int{}, l...): a row of its own, with room behind it.
-/
import Derived.Test.YtocoinkhbjlbhaaT26l
namespace Go.Proofs.Ytocoinkhbjlbhaa
open Go Go.RowKit

/-- An empty slice without room. -/
def pE0 : Pub := ⟨fun _ _ v => ∃ a, v = .slice a 0 0, fun _ h => h⟩
/-- A part of a row that is written. -/
def pSv (b n cap : Nat) : Pub := pv (.slice (some ⟨b, 0, none⟩) n cap)

section
variable {P : Program} {N : Nat} {G : TF} {d : Option Tmp} {ty : TypeId} {pos : String} {aft : Array Edge} {g : Option (Nat × Bool)}
theorem t_bs0 {t e : TypeId} {α : Type} {E : Enc α} (ht : USl P t e := by infer_instance) (hE : TEc P e E := by infer_instance) : TOp P N ⟨d, .buildSlice t 0 #[], ty, pos, aft, g⟩ G [] (.pu pE0) := .up [] (by simp) fun {M0 w0 M w fr} hr _ =>
  op_buildSlice (parts := []) (vs := []) (l := []) ht.out hE.out hr rfl rfl trivial rfl (by simp) fun _ _ _ k2 k3 => ⟨k3, k2⟩
theorem SlOf.e0 {α : Type} (E : Enc α) (M : Mut) (w : World) (a : Option Addr) : SlOf E M w (.slice a 0 0) ([] : List α) :=
  ⟨a, 0, rfl, Nat.le_refl _, Nat.zero_le _, fun _ => rfl, by simp, fun _ _ i hi => by simp at hi⟩
theorem Grow.e0 {B : Nat} {M : Mut} {w : World} {a : Option Addr} {sz tag : Nat} {e : TypeId} : Grow B M w (.slice a 0 0) 0 sz tag e := ⟨.inl ⟨a, rfl⟩⟩
theorem t_appE {α : Type} {E : Enc α} {x y : Operand} {l2 : List α} {t e : TypeId} (tag : Nat) (hx : topP G x = some pE0 := by rfl) (hy : topP G y = some (pSl E l2) := by rfl)
    (ht : USl P t e := by infer_instance) (hE : TEc P e E := by infer_instance) :
    TOp P N ⟨d, .call ⟨.builtin .append, #[x, y], #[t, t]⟩, ty, pos, aft, g⟩ G [tag] (.gr E l2 tag e) := ⟨[x, y], by simp [Op.operands, Call.operands], fun {M0 w0 M w fr} hr hf => by
  obtain ⟨_, k0, a, rfl⟩ := hf.op hx (by simp)
  obtain ⟨u, k3, k4⟩ := hf.op hy (by simp)
  exact op_append ht.out hE.out k0 k3 hr (SlOf.e0 E M w a) Grow.e0 k4 (by have := k4.bytes; simpa using this) fun v' w' M' h1 h2 h3 => ⟨M', StW.st h3, h1, h2⟩⟩
theorem t_lenS {x : Operand} {b n cap : Nat} {t e : TypeId} (hx : topP G x = some (pSv b n cap) := by rfl) (hn : n ≤ 9223372036854775807 := by omega) (ht : USl P t e := by infer_instance) :
    TOp P N ⟨d, .call ⟨.builtin .len, #[x], #[t]⟩, ty, pos, aft, g⟩ G [] (.pu (pI n)) := .pure [x] (by simp [Op.operands, Call.operands]) fun hf => by
  obtain ⟨v, h0, rfl⟩ := hf.op hx (by simp)
  exact op_lenv ht.out h0 ⟨rfl, rfl, rng64 (by omega)⟩
theorem t_idxS {α : Type} {E : Enc α} {x i : Operand} {b len cap tag : Nat} {l : List α} {t e : TypeId} {k : IntKind} {n : Int} (key : Nat) (hx : topP G x = some (pSv b len cap) := by rfl) (hi : topP G i = some (pK k n) := by rfl)
    (hg : tlook G key = some (.rw b tag E l e) := by rfl) (ht : USl P t e := by infer_instance) (hE : TEc P e E := by infer_instance) (h0 : 0 ≤ n ∧ n < len := by omega) :
    TOp P N ⟨d, .indexAddr t x i, ty, pos, aft, g⟩ G [] (.pu (pRo b E n.toNat)) := .pure [x, i] (by simp [Op.operands]) fun {B M w fr} hf => by
  obtain ⟨_, k0, rfl⟩ := hf.op hx (by simp)
  obtain ⟨_, k2, rfl, _⟩ := hf.op hi (by simp)
  obtain ⟨_, css, _, hbx⟩ := hf.out key _ hg (.inl rfl)
  obtain ⟨z, _, hT⟩ := hE.out
  exact op_indexBox ht.out hT k0 k2 hbx h0 ⟨rfl, rfl⟩
end

section
variable {f : FuncId} {N : Nat} {M0 : Mut} {w0 : World} {R : Value → World → Prop} {G : TF} {k : List Item}
variable {ops : Array Oper} {d : Nat} {ty : TypeId} {pos : String} {aft : Array Edge} {rest : List Oper}

theorem zeroI (n : Nat) : Builtin.zeroCells #[Value.int .i64 0] n = ((List.replicate n (0 : Int)).map (Value.int .i64)).toArray := by
  unfold Builtin.zeroCells
  apply Array.ext
  · simp
  · intro i h1 h2
    simp [Nat.mod_one]

theorem c_appRow {x y : Operand} {l : List Int} (tag key : Nat) (hk : ∀ b p, l.length + p ≤ maxLen → RLt Try.prog f N M0 w0 ops k R rest ((d, .pu (pSv b l.length (l.length + p))) :: (key, .rw b tag eI (l ++ List.replicate p 0) 3) :: G))
    (hx : topP G x = some pE0 := by rfl) (hy : topP G y = some (pSl eI l) := by rfl) (hl : 0 < l.length := by omega) (hd : d < N := by decide) :
    RLt Try.prog f N M0 w0 ops k R (⟨some d, .call ⟨.builtin .append, #[x, y], #[22, 22]⟩, ty, pos, aft, none⟩ :: rest) G := ⟨fun {M w fr} hr hf => by
  obtain ⟨_, k0, a, rfl⟩ := hf.op0 hx (fun _ _ => trivial)
  obtain ⟨u, k1, k2⟩ := hf.op0 hy (fun _ _ => trivial)
  obtain ⟨i, z', hi, hs, hby, hz', hzc⟩ := tdI.info
  obtain ⟨b, cap2, f1, f2, f3, f4, f5, f6⟩ := k2.ex
  have e8 : eI.by_ = 8 := rfl
  rw [e8] at f5
  cases b with
  | none => have := f4 rfl; omega
  | some ad2 =>
    obtain ⟨css2, c1, c2⟩ := CSS.of_elems (f6 ad2 rfl)
    obtain ⟨rfl, hI⟩ := cssI.1 c1
    have hnews : ∀ j v, (l.map (Value.int .i64))[j]? = some v → w.cell? (ad2.add j) = some v := fun j v h => (c2 j v h).1
    have hl2 : (l.map (Value.int .i64)).length = l.length * i.size := by rw [hs]; simp
    have hrun : ∃ cap, l.length ≤ cap ∧ cap ≤ maxLen ∧ (Builtin.append_ #[22, 22] ty #[.slice a 0 0, .slice (some ad2) l.length cap2]).run Try.prog w =
        .ok (.slice (some ⟨w.heap.size, 0, none⟩) l.length cap) (w.drew.alloc (.cells ((l.map (Value.int .i64)).toArray ++ Builtin.zeroCells z'.cells (cap - l.length)) 3)) := by
      cases a with
      | none =>
        exact ⟨_, grownCap_ge w l.length 0 3, grownCap_le_maxLen w l.length 0 3 (by unfold maxLen; omega), run_append_nil (P := Try.prog) w 22 ty 3 i z' Try.underlying22 hi hz' ad2 l.length cap2 _ hl2 hnews hl (by omega) (by rw [hby]; omega)⟩
      | some ad =>
        have h := run_append_grow (P := Try.prog) w 22 ty 3 i z' Try.underlying22 hi hz' ad 0 0 [] (by simp) (fun j v h => by simp at h) ad2 l.length cap2 _ hl2 hnews (by omega) (by omega) (growslice_fits (by omega) (by rw [hby]; omega))
        simp only [Nat.zero_add, Array.empty_append] at h
        exact ⟨_, grownCap_ge w l.length 0 3, grownCap_le_maxLen w l.length 0 3 (by unfold maxLen; omega), h⟩
    obtain ⟨cap, hcap, hmax, hrun⟩ := hrun
    rw [hzc, zeroI] at hrun
    have hst := St.alloc (M := M) (w := w) (B := w0.heap.size) hr.size hr.mb (.cells ((l.map (Value.int .i64)).toArray ++ ((List.replicate (cap - l.length) (0 : Int)).map (Value.int .i64)).toArray) 3) (some (0, tag))
      (w' := w.drew.alloc (.cells ((l.map (Value.int .i64)).toArray ++ ((List.replicate (cap - l.length) (0 : Int)).map (Value.int .i64)).toArray) 3)) rfl rfl rfl rfl
    have hsw : StW w0.heap.size [] M w (M.set w.heap.size (some (0, tag))) (w.drew.alloc (.cells ((l.map (Value.int .i64)).toArray ++ ((List.replicate (cap - l.length) (0 : Int)).map (Value.int .i64)).toArray) 3)) :=
      ⟨hst.x, hst.mb, hst.old, hst.bel, fun b p hp _ hb => hst.keep b p hp (by simp) hb⟩
    refine rl_step hd (OP.val (v := .slice (some ⟨w.heap.size, 0, none⟩) l.length cap) (w' := w.drew.alloc (.cells ((l.map (Value.int .i64)).toArray ++ ((List.replicate (cap - l.length) (0 : Int)).map (Value.int .i64)).toArray) 3)) (fun a ha => by simp only [execOp, resolve, invoke, builtin, Sem.run_bind, Sem.run_pure, Result.andThen_ok, List.map_toArray, List.map_cons, List.map_nil, ha.eval k0, ha.eval k1, f1, hrun]) ?_)
    refine (hk w.heap.size (cap - l.length) (by omega)).out (hr.stw hsw) (Fit.cons (T := .pu (pSv w.heap.size l.length (l.length + (cap - l.length)))) (Fit.hide (T := .rw w.heap.size tag eI (l ++ List.replicate (cap - l.length) 0) 3) (hf.up hsw) ?_) ?_)
    · refine ⟨hr.size, (l ++ List.replicate (cap - l.length) 0).map (Value.int .i64), cssI.2 ⟨rfl, fun n hn => ?_⟩, ?_, by simp [Mut.set]⟩
      · rcases List.mem_append.1 hn with hn | hn
        · exact hI n hn
        · rw [(List.mem_replicate.1 hn).2]
          unfold I64
          omega
      · have e : ((l ++ List.replicate (cap - l.length) (0 : Int)).map (Value.int .i64)).toArray = (l.map (Value.int .i64)).toArray ++ ((List.replicate (cap - l.length) (0 : Int)).map (Value.int .i64)).toArray := by simp
        rw [e]
        exact heap_alloc_new w.drew _
    · show _ = _
      rw [show l.length + (cap - l.length) = cap by omega]⟩

/-- Such a row is written no more. -/
theorem r_frzS {b tag n cap : Nat} {l : List Int} {e : TypeId} {P : Program} (t key : Nat) (h : RLt P f N M0 w0 ops k R rest ((t, .pu (pSl eI (l.take n))) :: (key, .no) :: dropW [tag] G))
    (ht : topP G (.tmp t) = some (pSv b n cap) := by rfl) (hg : tlook G key = some (.rw b tag eI l e) := by rfl) (hc : cap = l.length := by simp) (hM : cap ≤ maxLen := by assumption) (hn : n ≤ cap := by omega) (hl : n ≤ 1000000000000 := by omega) : RLt P f N M0 w0 ops k R rest G := ⟨fun {M w fr} hr hf => by
  subst hc
  obtain ⟨v, h1, rfl⟩ := hf.op0 ht (fun _ _ => trivial)
  obtain ⟨hB, css, h2, h3⟩ := hf.out key _ hg (.inr trivial)
  obtain ⟨rfl, hI⟩ := cssI.1 h2
  have e8 : eI.by_ = 8 := rfl
  have hst := St.clear (B := w0.heap.size) (w := w) hB h3.mark
  have hs := StW.st hst
  refine h.out (hr.stw hs) (Fit.hide (Fit.hide (T := .no) (hf.after hs) trivial) ⟨_, h1, ?_⟩)
  have hlt : (l.take n).length = n := by rw [List.length_take]; omega
  have := SlOf.of_row (E := eI) (M := M.set b none) (w := w) (l := l.take n) (css := (l.take n).map (Value.int .i64)) (g := b) (cap := l.length) (cur := (l.map (Value.int .i64)).toArray) (e := e) (fz := (0, 0)) (cssI.2 ⟨rfl, fun m hm => hI m (List.mem_of_mem_take hm)⟩) h3.heap
    (by show (List.map (Value.int .i64) l).take ((l.take n).length * 1) = _; rw [Nat.mul_one, hlt, List.map_take]) (by rw [hlt]; exact hn) hM (by rw [hlt, e8]; omega) (fun p hp => by simp [Mut.set] at hp)
  rw [hlt] at this
  exact this⟩
end
end Go.Proofs.Ytocoinkhbjlbhaa
