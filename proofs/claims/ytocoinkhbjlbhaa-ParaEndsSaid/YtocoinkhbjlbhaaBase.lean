/-
  What the program's tables say, and the data of layers 26 and 27.
-/
import Derived.Test.YtocoinkhbjlbhaaKit7
import Derived.Test.YtocoinkhbjlbhaaChecked
namespace Go.Proofs.Ytocoinkhbjlbhaa
open Go Go.RowKit

/-- A line. -/
structure Line where
  frm : Int
  til : Int
  gaps : List Int
  notes : List Int

def eLine : Enc Line := ((eI.app eI).app ((eSl eI).app (eSl eI))).via (fun L => ((L.frm, L.til), (L.gaps, L.notes))) 64 (by decide)

theorem eLine_R {M : Mut} {w : World} {cs : List Value} {L : Line} : eLine.R M w cs L ↔ ∃ g n, cs = [.int .i64 L.frm, .int .i64 L.til, g, n] ∧ I64 L.frm ∧ I64 L.til ∧ SlOf eI M w g L.gaps ∧ SlOf eI M w n L.notes := by
  constructor
  · rintro ⟨a, b, rfl, ⟨a1, a2, rfl, ⟨rfl, h1, _⟩, ⟨rfl, h2, _⟩⟩, ⟨b1, b2, rfl, ⟨g, rfl, h3⟩, ⟨n, rfl, h4⟩⟩⟩
    exact ⟨g, n, rfl, h1 rfl, h2 rfl, h3, h4⟩
  · rintro ⟨g, n, rfl, h1, h2, h3, h4⟩
    exact ⟨_, _, rfl, ⟨_, _, rfl, ⟨rfl, fun _ => h1, fun e => by cases e⟩, ⟨rfl, fun _ => h2, fun e => by cases e⟩⟩, ⟨_, _, rfl, ⟨g, rfl, h3⟩, ⟨n, rfl, h4⟩⟩⟩

theorem eLine_V {M : Mut} {w : World} {v : Value} {L : Line} : eLine.V M w v L ↔ ∃ g n, v = .agg #[.int .i64 L.frm, .int .i64 L.til, g, n] ∧ I64 L.frm ∧ I64 L.til ∧ SlOf eI M w g L.gaps ∧ SlOf eI M w n L.notes := by
  constructor
  · rintro ⟨cs, h, rfl⟩
    obtain ⟨g, n, rfl, h'⟩ := eLine_R.1 h
    exact ⟨g, n, rfl, h'⟩
  · rintro ⟨g, n, rfl, h⟩
    exact ⟨_, eLine_R.2 ⟨g, n, rfl, h⟩, rfl⟩

theorem Elem.line {M : Mut} {w : World} {ad : Addr} {L : Line} (h : Elem eLine M w ad L) :
    Elem eI M w (ad.add 0) L.frm ∧ Elem eI M w (ad.add 1) L.til ∧ Elem (eSl eI) M w (ad.add 2) L.gaps ∧ Elem (eSl eI) M w (ad.add 3) L.notes := by
  obtain ⟨cs, hR, hc⟩ := h
  obtain ⟨g, n, rfl, h1, h2, h3, h4⟩ := eLine_R.1 hR
  refine ⟨⟨[_], ⟨rfl, fun _ => h1, fun e => by cases e⟩, fun j c hj => ?_⟩, ⟨[_], ⟨rfl, fun _ => h2, fun e => by cases e⟩, fun j c hj => ?_⟩, ⟨[_], ⟨g, rfl, h3⟩, fun j c hj => ?_⟩, ⟨[_], ⟨n, rfl, h4⟩, fun j c hj => ?_⟩⟩ <;>
  · cases j with
    | succ j => simp at hj
    | zero =>
      simp at hj
      subst hj
      rw [add_add']
      exact hc _ _ rfl

theorem line_gaps {M : Mut} {w : World} {cs : List Value} {L : Line} {u : Value} (h : eLine.R M w cs L) (hu : SlOf eI M w u L.gaps) : eLine.R M w (splice cs 2 [u]) L := by
  obtain ⟨g, n, rfl, h1, h2, h3, h4⟩ := eLine_R.1 h
  exact eLine_R.2 ⟨u, n, rfl, h1, h2, hu, h4⟩
theorem line_notes {M : Mut} {w : World} {cs : List Value} {L : Line} {u : Value} (h : eLine.R M w cs L) (hu : SlOf eI M w u L.notes) : eLine.R M w (splice cs 3 [u]) L := by
  obtain ⟨g, n, rfl, h1, h2, h3, h4⟩ := eLine_R.1 h
  exact eLine_R.2 ⟨g, u, rfl, h1, h2, h3, hu⟩

/-- A page. -/
structure Pg where
  num : Int
  suf : Int
  entry : Int
  version : Int
  body : List Line
  notes : List Line

def ePg : Enc Pg := ((((eI.app eI).app (eI.app eI)).app ((eSl eLine).app (eSl eLine)))).via (fun p => (((p.num, p.suf), (p.entry, p.version)), (p.body, p.notes))) 80 (by decide)

theorem ePg_R {M : Mut} {w : World} {cs : List Value} {p : Pg} : ePg.R M w cs p ↔ ∃ b n, cs = [.int .i64 p.num, .int .i64 p.suf, .int .i64 p.entry, .int .i64 p.version, b, n] ∧ (I64 p.num ∧ I64 p.suf ∧ I64 p.entry ∧ I64 p.version) ∧ SlOf eLine M w b p.body ∧ SlOf eLine M w n p.notes := by
  constructor
  · rintro ⟨a, b, rfl, ⟨a1, a2, rfl, ⟨a3, a4, rfl, ⟨rfl, h1, _⟩, ⟨rfl, h2, _⟩⟩, ⟨a5, a6, rfl, ⟨rfl, h5, _⟩, ⟨rfl, h6, _⟩⟩⟩, ⟨b1, b2, rfl, ⟨g, rfl, h3⟩, ⟨n, rfl, h4⟩⟩⟩
    exact ⟨g, n, rfl, ⟨h1 rfl, h2 rfl, h5 rfl, h6 rfl⟩, h3, h4⟩
  · rintro ⟨g, n, rfl, ⟨h1, h2, h5, h6⟩, h3, h4⟩
    exact ⟨_, _, rfl, ⟨_, _, rfl, ⟨_, _, rfl, ⟨rfl, fun _ => h1, fun e => by cases e⟩, ⟨rfl, fun _ => h2, fun e => by cases e⟩⟩, ⟨_, _, rfl, ⟨rfl, fun _ => h5, fun e => by cases e⟩, ⟨rfl, fun _ => h6, fun e => by cases e⟩⟩⟩, ⟨_, _, rfl, ⟨g, rfl, h3⟩, ⟨n, rfl, h4⟩⟩⟩

theorem ePg_V {M : Mut} {w : World} {v : Value} {p : Pg} : ePg.V M w v p ↔ ∃ b n, v = .agg #[.int .i64 p.num, .int .i64 p.suf, .int .i64 p.entry, .int .i64 p.version, b, n] ∧ (I64 p.num ∧ I64 p.suf ∧ I64 p.entry ∧ I64 p.version) ∧ SlOf eLine M w b p.body ∧ SlOf eLine M w n p.notes := by
  constructor
  · rintro ⟨cs, h, rfl⟩
    obtain ⟨g, n, rfl, h'⟩ := ePg_R.1 h
    exact ⟨g, n, rfl, h'⟩
  · rintro ⟨g, n, rfl, h⟩
    exact ⟨_, ePg_R.2 ⟨g, n, rfl, h⟩, rfl⟩

theorem Elem.pg {M : Mut} {w : World} {ad : Addr} {p : Pg} (h : Elem ePg M w ad p) :
    (Elem eI M w (ad.add 0) p.num ∧ Elem eI M w (ad.add 1) p.suf ∧ Elem eI M w (ad.add 2) p.entry ∧ Elem eI M w (ad.add 3) p.version) ∧ Elem (eSl eLine) M w (ad.add 4) p.body ∧ Elem (eSl eLine) M w (ad.add 5) p.notes := by
  obtain ⟨cs, hR, hc⟩ := h
  obtain ⟨b, n, rfl, ⟨h1, h2, h5, h6⟩, h3, h4⟩ := ePg_R.1 hR
  refine ⟨⟨⟨[_], ⟨rfl, fun _ => h1, fun e => by cases e⟩, fun j c hj => ?_⟩, ⟨[_], ⟨rfl, fun _ => h2, fun e => by cases e⟩, fun j c hj => ?_⟩, ⟨[_], ⟨rfl, fun _ => h5, fun e => by cases e⟩, fun j c hj => ?_⟩, ⟨[_], ⟨rfl, fun _ => h6, fun e => by cases e⟩, fun j c hj => ?_⟩⟩,
    ⟨[_], ⟨b, rfl, h3⟩, fun j c hj => ?_⟩, ⟨[_], ⟨n, rfl, h4⟩, fun j c hj => ?_⟩⟩ <;>
  · cases j with
    | succ j => simp at hj
    | zero =>
      simp at hj
      subst hj
      rw [add_add']
      exact hc _ _ rfl

/-! ### Types -/

theorem uL : Try.prog.underlying 23 = some (.slice 47) := Try.underlying23
theorem uLL : Try.prog.underlying 24 = some (.slice 23) := Try.underlying24
theorem uI : Try.prog.underlying 22 = some (.slice 3) := Try.underlying22
theorem uP : Try.prog.underlying 27 = some (.slice 40) := Try.underlying27

theorem tdI : TD Try.prog 3 1 8 false [.int .i64 0] := TD.mk' (z := .int .i64 0) (d := .int .i64) (by kernel_rfl) (by kernel_rfl) rfl
theorem tdB : TD Try.prog 4 1 1 false [.bool false] := TD.mk' (z := .bool false) (d := .bool) (by kernel_rfl) (by kernel_rfl) rfl
theorem tdSI : TD Try.prog 22 1 24 false [.slice none 0 0] := TD.mk' (z := .slice none 0 0) (d := .slice 3) (by kernel_rfl) (by kernel_rfl) rfl
theorem tdSL : TD Try.prog 23 1 24 false [.slice none 0 0] := TD.mk' (z := .slice none 0 0) (d := .slice 47) (by kernel_rfl) (by kernel_rfl) rfl
theorem tdL : TD Try.prog 47 4 64 true [.int .i64 0, .int .i64 0, .slice none 0 0, .slice none 0 0] := by
  exact TD.mk' (z := .agg #[.int .i64 0, .int .i64 0, .slice none 0 0, .slice none 0 0]) (by kernel_rfl) Try.underlying47 rfl
theorem tdP : TD Try.prog 40 6 80 true [.int .i64 0, .int .i64 0, .int .i64 0, .int .i64 0, .slice none 0 0, .slice none 0 0] := by
  exact TD.mk' (z := .agg #[.int .i64 0, .int .i64 0, .int .i64 0, .int .i64 0, .slice none 0 0, .slice none 0 0]) (by kernel_rfl) Try.underlying40 rfl

theorem teI : TE Try.prog 3 eI := ⟨_, rfl, tdI⟩
theorem teSI : TE Try.prog 22 (eSl eI) := ⟨_, rfl, tdSI⟩
theorem teSL : TE Try.prog 23 (eSl eLine) := ⟨_, rfl, tdSL⟩
theorem teL : TE Try.prog 47 eLine := ⟨_, rfl, tdL⟩
theorem teP : TE Try.prog 40 ePg := ⟨_, rfl, tdP⟩

theorem FD.mk' {P : Program} {s : TypeId} {f off : Nat} {fs : Array Field} (h : P.underlying s = some (.struct fs)) (h2 : ((fs[f]?).bind fun fd => (P.info? fd.type).map fun i => (fd.offset, i.size == 0)) = some (off, false)) : FD P s f off := by
  cases hf : fs[f]? with
  | none => simp [hf] at h2
  | some fd =>
    cases hi : P.info? fd.type with
    | none => simp [hf, hi] at h2
    | some i =>
      simp [hf, hi] at h2
      exact ⟨fs, fd, i, h, hf, h2.1, hi, h2.2⟩
theorem FV.mk' {P : Program} {s : TypeId} {f off sz : Nat} {agg : Bool} {fs : Array Field} (h : P.underlying s = some (.struct fs))
    (h2 : ((fs[f]?).bind fun fd => (P.info? fd.type).bind fun i => (P.underlying fd.type).map fun d => (fd.offset, i.size, aggD d)) = some (off, sz, agg)) : FV P s f off sz agg := by
  cases hf : fs[f]? with
  | none => simp [hf] at h2
  | some fd =>
    cases hi : P.info? fd.type with
    | none => simp [hf, hi] at h2
    | some i =>
      cases hu : P.underlying fd.type with
      | none => simp [hf, hi, hu] at h2
      | some d =>
        simp [hf, hi, hu] at h2
        exact ⟨fs, fd, i, d, h, hf, h2.1, hi, h2.2.1, hu, h2.2.2⟩
theorem fdL0 : FD Try.prog 47 0 0 := FD.mk' Try.underlying47 (by kernel_rfl)
theorem fdL1 : FD Try.prog 47 1 1 := FD.mk' Try.underlying47 (by kernel_rfl)
theorem fdL2 : FD Try.prog 47 2 2 := FD.mk' Try.underlying47 (by kernel_rfl)
theorem fdL3 : FD Try.prog 47 3 3 := FD.mk' Try.underlying47 (by kernel_rfl)
theorem fvL0 : FV Try.prog 47 0 0 1 false := FV.mk' Try.underlying47 (by kernel_rfl)
theorem fvL1 : FV Try.prog 47 1 1 1 false := FV.mk' Try.underlying47 (by kernel_rfl)
theorem fvL2 : FV Try.prog 47 2 2 1 false := FV.mk' Try.underlying47 (by kernel_rfl)
theorem fvL3 : FV Try.prog 47 3 3 1 false := FV.mk' Try.underlying47 (by kernel_rfl)
theorem fdP0 : FD Try.prog 40 0 0 := FD.mk' Try.underlying40 (by kernel_rfl)
theorem fdP1 : FD Try.prog 40 1 2 := FD.mk' Try.underlying40 (by kernel_rfl)
theorem fdP2 : FD Try.prog 40 2 3 := FD.mk' Try.underlying40 (by kernel_rfl)
theorem fdP3 : FD Try.prog 40 3 4 := FD.mk' Try.underlying40 (by kernel_rfl)
theorem fdP4 : FD Try.prog 40 4 5 := FD.mk' Try.underlying40 (by kernel_rfl)
theorem fvP3 : FV Try.prog 40 3 4 1 false := FV.mk' Try.underlying40 (by kernel_rfl)
theorem fvP4 : FV Try.prog 40 4 5 1 false := FV.mk' Try.underlying40 (by kernel_rfl)
theorem sbL : SB Try.prog 47 [(0, 1), (1, 1), (2, 1), (3, 1)] [.int .i64 0, .int .i64 0, .slice none 0 0, .slice none 0 0] :=
  ⟨⟨_, Try.underlying47, fun w => by kernel_rfl⟩, ⟨.agg #[.int .i64 0, .int .i64 0, .slice none 0 0, .slice none 0 0], fun w => ⟨by kernel_rfl, rfl⟩⟩⟩
theorem sbP : SB Try.prog 40 [(0, 2), (2, 1), (3, 1), (4, 1), (5, 1)] [.int .i64 0, .int .i64 0, .int .i64 0, .int .i64 0, .slice none 0 0, .slice none 0 0] :=
  ⟨⟨_, Try.underlying40, fun w => by kernel_rfl⟩, ⟨.agg #[.int .i64 0, .int .i64 0, .int .i64 0, .int .i64 0, .slice none 0 0, .slice none 0 0], fun w => ⟨by kernel_rfl, rfl⟩⟩⟩

theorem mixed : Try.prog.follows .mixedOrders = true := by kernel_rfl

/-! ### Functions -/

theorem Ent.mk' {P : Program} {g : FuncId} {fn : Func} (h : P.funcs[g]? = some fn) (h2 : ((fn.name == "runtime.NumGoroutine"), fn.body.isNone) = (false, false)) : Ent P g := by
  simp only [Prod.mk.injEq] at h2
  exact ⟨fn, h, h2.1, h2.2⟩
theorem ent3 : Ent Try.prog 3 := Ent.mk' Try.func3 (by kernel_rfl)
theorem ent4 : Ent Try.prog 4 := Ent.mk' Try.func4 (by kernel_rfl)
theorem ent5 : Ent Try.prog 5 := Ent.mk' Try.func5 (by kernel_rfl)
theorem ent6 : Ent Try.prog 6 := Ent.mk' Try.func6 (by kernel_rfl)
theorem ent7 : Ent Try.prog 7 := Ent.mk' Try.func7 (by kernel_rfl)
theorem ent8 : Ent Try.prog 8 := Ent.mk' Try.func8 (by kernel_rfl)
theorem ent9 : Ent Try.prog 9 := Ent.mk' Try.func9 (by kernel_rfl)
theorem ent10 : Ent Try.prog 10 := Ent.mk' Try.func10 (by kernel_rfl)
theorem ent11 : Ent Try.prog 11 := Ent.mk' Try.func11 (by kernel_rfl)
theorem ent12 : Ent Try.prog 12 := Ent.mk' Try.func12 (by kernel_rfl)
theorem ent13 : Ent Try.prog 13 := Ent.mk' Try.func13 (by kernel_rfl)
theorem ent14 : Ent Try.prog 14 := Ent.mk' Try.func14 (by kernel_rfl)
theorem ent15 : Ent Try.prog 15 := Ent.mk' Try.func15 (by kernel_rfl)
theorem ent16 : Ent Try.prog 16 := Ent.mk' Try.func16 (by kernel_rfl)
theorem ent17 : Ent Try.prog 17 := Ent.mk' Try.func17 (by kernel_rfl)
theorem ent18 : Ent Try.prog 18 := Ent.mk' Try.func18 (by kernel_rfl)
theorem ent19 : Ent Try.prog 19 := Ent.mk' Try.func19 (by kernel_rfl)
theorem ent20 : Ent Try.prog 20 := Ent.mk' Try.func20 (by kernel_rfl)
theorem ent21 : Ent Try.prog 21 := Ent.mk' Try.func21 (by kernel_rfl)
theorem ent22 : Ent Try.prog 22 := Ent.mk' Try.func22 (by kernel_rfl)
theorem ent23 : Ent Try.prog 23 := Ent.mk' Try.func23 (by kernel_rfl)
theorem ent24 : Ent Try.prog 24 := Ent.mk' Try.func24 (by kernel_rfl)
theorem ent25 : Ent Try.prog 25 := Ent.mk' Try.func25 (by kernel_rfl)
theorem ent26 : Ent Try.prog 26 := Ent.mk' Try.func26 (by kernel_rfl)
theorem ent27 : Ent Try.prog 27 := Ent.mk' Try.func27 (by kernel_rfl)
theorem ent28 : Ent Try.prog 28 := Ent.mk' Try.func28 (by kernel_rfl)
theorem ent29 : Ent Try.prog 29 := Ent.mk' Try.func29 (by kernel_rfl)
theorem ent30 : Ent Try.prog 30 := Ent.mk' Try.func30 (by kernel_rfl)
theorem ent31 : Ent Try.prog 31 := Ent.mk' Try.func31 (by kernel_rfl)
theorem ent32 : Ent Try.prog 32 := Ent.mk' Try.func32 (by kernel_rfl)
theorem ent33 : Ent Try.prog 33 := Ent.mk' Try.func33 (by kernel_rfl)
theorem ent34 : Ent Try.prog 34 := Ent.mk' Try.func34 (by kernel_rfl)
theorem ent35 : Ent Try.prog 35 := Ent.mk' Try.func35 (by kernel_rfl)
theorem ent36 : Ent Try.prog 36 := Ent.mk' Try.func36 (by kernel_rfl)
theorem ent37 : Ent Try.prog 37 := Ent.mk' Try.func37 (by kernel_rfl)
theorem ent38 : Ent Try.prog 38 := Ent.mk' Try.func38 (by kernel_rfl)
theorem ent39 : Ent Try.prog 39 := Ent.mk' Try.func39 (by kernel_rfl)
theorem ent40 : Ent Try.prog 40 := Ent.mk' Try.func40 (by kernel_rfl)
theorem ent41 : Ent Try.prog 41 := Ent.mk' Try.func41 (by kernel_rfl)
theorem ent42 : Ent Try.prog 42 := Ent.mk' Try.func42 (by kernel_rfl)
theorem ent43 : Ent Try.prog 43 := Ent.mk' Try.func43 (by kernel_rfl)
theorem ent44 : Ent Try.prog 44 := Ent.mk' Try.func44 (by kernel_rfl)
theorem ent45 : Ent Try.prog 45 := Ent.mk' Try.func45 (by kernel_rfl)
theorem ent46 : Ent Try.prog 46 := Ent.mk' Try.func46 (by kernel_rfl)
theorem ent47 : Ent Try.prog 47 := Ent.mk' Try.func47 (by kernel_rfl)
theorem ent48 : Ent Try.prog 48 := Ent.mk' Try.func48 (by kernel_rfl)
theorem ent49 : Ent Try.prog 49 := Ent.mk' Try.func49 (by kernel_rfl)
theorem ent50 : Ent Try.prog 50 := Ent.mk' Try.func50 (by kernel_rfl)
theorem ent51 : Ent Try.prog 51 := Ent.mk' Try.func51 (by kernel_rfl)
theorem ent52 : Ent Try.prog 52 := Ent.mk' Try.func52 (by kernel_rfl)
theorem ent53 : Ent Try.prog 53 := Ent.mk' Try.func53 (by kernel_rfl)
theorem ent54 : Ent Try.prog 54 := Ent.mk' Try.func54 (by kernel_rfl)
theorem ent55 : Ent Try.prog 55 := Ent.mk' Try.func55 (by kernel_rfl)
theorem ent56 : Ent Try.prog 56 := Ent.mk' Try.func56 (by kernel_rfl)
theorem ent57 : Ent Try.prog 57 := Ent.mk' Try.func57 (by kernel_rfl)
theorem ent58 : Ent Try.prog 58 := Ent.mk' Try.func58 (by kernel_rfl)
theorem ent59 : Ent Try.prog 59 := Ent.mk' Try.func59 (by kernel_rfl)
theorem ent60 : Ent Try.prog 60 := Ent.mk' Try.func60 (by kernel_rfl)
theorem ent61 : Ent Try.prog 61 := Ent.mk' Try.func61 (by kernel_rfl)
theorem ent62 : Ent Try.prog 62 := Ent.mk' Try.func62 (by kernel_rfl)
theorem ent63 : Ent Try.prog 63 := Ent.mk' Try.func63 (by kernel_rfl)
theorem ent64 : Ent Try.prog 64 := Ent.mk' Try.func64 (by kernel_rfl)
theorem ent65 : Ent Try.prog 65 := Ent.mk' Try.func65 (by kernel_rfl)
theorem ent66 : Ent Try.prog 66 := Ent.mk' Try.func66 (by kernel_rfl)
theorem ent67 : Ent Try.prog 67 := Ent.mk' Try.func67 (by kernel_rfl)
theorem ent68 : Ent Try.prog 68 := Ent.mk' Try.func68 (by kernel_rfl)
theorem ent69 : Ent Try.prog 69 := Ent.mk' Try.func69 (by kernel_rfl)
theorem ent70 : Ent Try.prog 70 := Ent.mk' Try.func70 (by kernel_rfl)
end Go.Proofs.Ytocoinkhbjlbhaa
