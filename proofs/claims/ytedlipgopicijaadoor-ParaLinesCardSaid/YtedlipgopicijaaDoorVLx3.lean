/-
  Part 3 of 4 of the proof of paraLines_card: lemmas on which it rests, each for all inputs. Merged from the texts D17 D18 D19 D20 D7 D8 T26b T26c T26d T26e T26f T26g T26h T26i P26 M26c D9.
-/
import Derived.Calls
import Derived.Orders
import Derived.Below
import Derived.KernelRfl
import Derived.WalkKit
import Derived.Laws.AppendOwn
import Derived.Laws.Rows
import Derived.Deep.Slices
import Derived.Laws.OwnMore
import Derived.Laws.MakeOwn
import Derived.Laws.CopyRow
import Derived.Still
import Derived.Lib.SliceRun
import Derived.Test.YtedlipgopicijaaDoorChecked
import Derived.Lib.AppendZeros
import Derived.Scope
import Derived.Test.YtedlipgopicijaaDoorVLx2
section
namespace Go.Proofs.YtedlipgopicijaaDoor
open Go Go.RowKit
def fromGo : List Wd → Nat → Nat → Nat
  | [], _, f => f
  | w :: r, i, f => fromGo r (i + 1) (if w.note ≠ 0 then i + 1 else f)
def fromM (ws : List Wd) : Nat := fromGo ws 0 0
def refAt (ws : List Wd) (n : Int) : Nat := (fromM ws + n.tmod (ws.length - fromM ws : Nat)).toNat
def refOk (ws : List Wd) (later : Bool) : Bool := !later && decide (fromM ws < ws.length)
theorem refAt_lt {ws : List Wd} {n : Int} (hn : 0 ≤ n) (h : fromM ws < ws.length) : fromM ws ≤ refAt ws n ∧ refAt ws n < ws.length := by
  have := tmod_rng' (k := ((ws.length - fromM ws : Nat) : Int)) hn (by omega)
  unfold refAt
  omega
set_option maxHeartbeats 2000000 in
theorem refer_c {B tag : Nat} {M : Mut} {w : World} {r : RowD} {n note : Int} {later : Bool} (hok : RowOk B M w tag r) (hn : 0 ≤ n) (hI : I64 n) (hI2 : I64 note) :
    CallsV Tryd.prog 29 [r.v, .int .i64 n, .int .i64 note, .bool later] w (fun v w' =>
      if h : refOk r.ws later = true then ∃ hi : refAt r.ws n < r.ws.length, v = .bool true ∧ RowOk B M w' tag (r.put (refAt r.ws n) { r.ws[refAt r.ws n] with note := note }) ∧ St B (some tag) M w M w' ∧ ∀ b, b ≠ r.b → w'.heap[b]? = w.heap[b]?
      else v = .bool false ∧ w' = w) := by
  have hlen := hok.at_.by_
  refine callsV_of_run Tryd.func29 rfl Tryd.ntmps29 (Nat.le_of_ble_eq_true rfl) ?_
  (repeat (first | refine run_seq ?_ | refine run_region_l ?_ | refine rl_nil ?_ | refine rl_step (by decide) (op_assign rfl ?_) | refine run_block ?_ | fail))
  refine (run_loop (α := Nat × Nat) (fun x => [(0, r.v), (1, .int .i64 n), (2, .int .i64 note), (3, .bool later), (9, .int .i64 x.2), (10, .int .i64 x.1)])
    (fun x w' => x.1 ≤ r.ws.length ∧ w' = w ∧ fromGo (r.ws.drop x.1) x.1 x.2 = fromM r.ws ∧ x.2 ≤ x.1) (fun x => r.ws.length - x.1) (0, 0) ⟨Nat.zero_le _, rfl, rfl, Nat.le_refl _⟩ ?_).sub (by repeat (first | exact trivial | refine ⟨rfl, ?_⟩))
  rintro ⟨i, f⟩ w' ⟨hi, rfl, hF, hfi⟩ ih
  dsimp only at hi hF hfi ih ⊢
  (repeat (first | refine run_seq ?_ | refine run_region_l ?_ | refine rl_step (by decide) (op_move rfl ?_) | fail))
  refine rl_step (by decide) (op_lenv Tryd.underlying27 rfl ?_)
  (repeat (first | refine rl_nil ?_ | refine rl_step (by decide) (op_lss rfl rfl ?_) | fail))
  refine run_if rfl (fun hlt => ?_) (fun hlt => ?_)
  · have hi' : i < r.ws.length := by omega
    rw [List.drop_eq_getElem_cons hi'] at hF
    simp only [fromGo] at hF
    have hw := hok.at_.word hi'
    (repeat (first | refine run_seq ?_ | refine run_region_l ?_ | refine rl_step (by decide) (op_move rfl ?_) | refine run_block ?_ | refine run_skip ?_ | fail))
    refine rl_step (by decide) (op_idxRow rfl rfl (by omega) ?_)
    refine rl_step (by decide) (op_fieldBox fdW3 rfl ?_)
    refine rl_step (by decide) (op_ld1 tdI rfl (by simpa using hw.c3) ?_)
    (repeat (first | refine rl_nil ?_ | refine rl_step (by decide) (op_neq rfl rfl ?_) | fail))
    refine run_if rfl (fun h => ?_) (fun h => ?_)
    · rw [if_pos h] at hF
      (repeat (first | refine run_region_l ?_ | refine rl_nil ?_ | refine rl_step (by decide) (op_move rfl ?_) | refine rl_step (by decide) (op_assign rfl ?_) | refine run_inBlock ?_ | refine rl_step (by decide) (op_add rfl rfl (by omega) ?_) | fail))
      exact (ih (i + 1, i + 1) _ ⟨by dsimp only; omega, rfl, hF, Nat.le_refl _⟩ (by dsimp only; omega)).sub (by repeat (first | exact trivial | refine ⟨rfl, ?_⟩))
    · rw [if_neg h] at hF
      (repeat (first | refine run_region_l ?_ | refine rl_nil ?_ | refine rl_step (by decide) (op_move rfl ?_) | refine rl_step (by decide) (op_assign rfl ?_) | refine run_inBlock ?_ | refine run_skip ?_ | refine rl_step (by decide) (op_add rfl rfl (by omega) ?_) | fail))
      exact (ih (i + 1, f) _ ⟨by dsimp only; omega, rfl, hF, by dsimp only; omega⟩ (by dsimp only; omega)).sub (by repeat (first | exact trivial | refine ⟨rfl, ?_⟩))
  · rw [List.drop_of_length_le (by omega)] at hF
    simp only [fromGo] at hF
    subst hF
    cases later
    · by_cases hlt2 : fromM r.ws < r.ws.length
      · have hro : refOk r.ws false = true := by simp [refOk, hlt2]
        obtain ⟨q1, q2⟩ := refAt_lt hn hlt2
        have hm := tmod_rng' (k := ((r.ws.length - fromM r.ws : Nat) : Int)) hn (by omega)
        have hra : (refAt r.ws n : Int) = fromM r.ws + n.tmod (r.ws.length - fromM r.ws : Nat) := by unfold refAt; omega
        have hsub : ((r.ws.length : Int) - (fromM r.ws : Int)) = ((r.ws.length - fromM r.ws : Nat) : Int) := by omega
        (repeat (first | refine run_seq ?_ | refine run_region_l ?_ | refine rl_step (by decide) (op_move rfl ?_) | refine run_exit rfl ?_ | refine rl_yes rfl rfl ?_ | fail))
        refine rl_step (by decide) (op_lenv Tryd.underlying27 rfl ?_)
        (repeat (first | refine rl_nil ?_ | refine rl_yes rfl rfl ?_ | refine rl_step (by decide) (op_pick_f rfl rfl ?_) | refine rl_step (by decide) (op_geq rfl rfl ?_) | fail))
        refine run_no rfl (by omega) ?_
        (repeat (first | refine run_seq ?_ | refine run_region_l ?_ | refine rl_step (by decide) (op_move rfl ?_) | refine run_skip ?_ | fail))
        refine rl_step (by decide) (op_lenv Tryd.underlying27 rfl ?_)
        (repeat (first | refine rl_step (by decide) (op_move rfl ?_) | refine rl_step (by decide) (op_sub rfl rfl (by omega) ?_) | fail))
        refine rl_step (by decide) (op_rem rfl rfl (by omega) ?_)
        rw [hsub]
        (repeat (first | refine rl_step (by decide) (op_move rfl ?_) | refine rl_step (by decide) (op_add rfl rfl (by omega) ?_) | fail))
        refine rl_step (by decide) (op_idxRow rfl rfl (by omega) ?_)
        refine rl_step (by decide) (op_fieldBox fdW3 rfl ?_)
        have hidx : ((fromM r.ws : Int) + n.tmod ((r.ws.length - fromM r.ws : Nat) : Int)).toNat = refAt r.ws n := rfl
        rw [hidx]
        refine rl_step0 (op_stRow (n := refAt r.ws n) (f := 3) (x' := { r.ws[refAt r.ws n] with note := note }) tdI rfl rfl rfl q2 hok (by omega) (fun cs hR => ?_) fun w1 h1 h2 h3 => ?_)
        · exact w3l.set hR ⟨rfl, fun _ => hI2, fun e => by cases e⟩
        (repeat (first | refine run_seq ?_ | refine run_region_l ?_ | refine rl_nil ?_ | refine rl_step (by decide) (op_assign rfl ?_) | fail))
        refine run_ret1 Tryd.func29 rfl rfl ?_
        rw [dif_pos hro]
        exact ⟨q2, rfl, h1, h2, h3⟩
      · have hro : ¬ refOk r.ws false = true := by simp [refOk, hlt2]
        (repeat (first | refine run_seq ?_ | refine run_region_l ?_ | refine rl_step (by decide) (op_move rfl ?_) | refine run_exit rfl ?_ | refine rl_yes rfl rfl ?_ | fail))
        refine rl_step (by decide) (op_lenv Tryd.underlying27 rfl ?_)
        (repeat (first | refine rl_nil ?_ | refine rl_yes rfl rfl ?_ | refine rl_step (by decide) (op_pick_f rfl rfl ?_) | refine rl_step (by decide) (op_geq rfl rfl ?_) | fail))
        refine run_yes rfl (by omega) ?_
        (repeat (first | refine run_seq ?_ | refine run_region_l ?_ | refine rl_nil ?_ | refine rl_step (by decide) (op_assign rfl ?_) | fail))
        refine run_ret1 Tryd.func29 rfl rfl ?_
        rw [dif_neg hro]
        exact ⟨rfl, rfl⟩
    · have hro : ¬ refOk r.ws true = true := by simp [refOk]
      (repeat (first | refine run_seq ?_ | refine run_region_l ?_ | refine rl_nil ?_ | refine rl_step (by decide) (op_move rfl ?_) | refine rl_step (by decide) (op_assign rfl ?_) | refine run_exit rfl ?_ | refine run_true rfl ?_ | refine rl_no rfl rfl rfl (by decide) ?_ | refine rl_step (by decide) (op_pick_t rfl rfl ?_) | fail))
      refine run_ret1 Tryd.func29 rfl rfl ?_
      rw [dif_neg hro]
      exact ⟨rfl, rfl⟩
theorem rows_len {M : Mut} {w : World} {v : Value} {l : List (List Wd)} (h : SlOf (eSl eWord) M w v l) : ∀ p ∈ l, p.length ≤ 2932031007403 := fun p hp => by
  obtain ⟨i, hi, rfl⟩ := List.mem_iff_getElem.1 hp
  obtain ⟨a, cap, h1, h2, h3, h4, h5, h6⟩ := h.ex
  cases a with
  | none => have := h4 rfl; omega
  | some ad =>
    obtain ⟨cs, ⟨u, _, hs⟩, _⟩ := h6 ad rfl i hi
    exact i_len48 hs
def lastM (l : List (List Wd)) (k : Nat) : Bool := (l.drop (k + 1)).any fun p => p.any fun w => decide (w.note ≠ 0)
theorem last_f {l : List (List Wd)} {k : Nat} (hk : k ≤ 1000000) : Fn Tryd.prog 30 [pSl (eSl eWord) l, pI k] (pB (lastM l k)) := by
  refine fn_of ent30 Tryd.func30 rfl Tryd.ntmps30 rfl fun M0 w0 => ?_
  refine c_have 0 (fun h => i_len24 h) fun hl => ?_
  refine c_have 0 (fun h => rows_len h) fun hrl => ?_
  obtain ⟨r, hr⟩ : ∃ r, r = lastM l k := ⟨_, rfl⟩
  rw [← hr]
  (repeat (first | refine c_seq ?_ | refine c_reg ?_ | refine c_rnil ?_ | refine c_block ?_ | refine c_op (by first | exact t_move | exact t_assign | exact t_add | fail) ?_ | fail))
  refine c_loop (fun i : Nat => [(0, .pu (pSl (eSl eWord) l)), (5, .pu (pI i))]) (fun i => k + 1 ≤ i ∧ r = (l.drop i).any fun p => p.any fun w => decide (w.note ≠ 0)) (fun i => l.length - i) (k + 1) ⟨Nat.le_refl _, hr⟩ (by repeat (first | exact trivial | refine ⟨has_rfl rfl, ?_⟩ | fail)) fun i hJ ih => ?_
  obtain ⟨hi, hri⟩ := hJ
  by_cases hlt : i < l.length
  · rw [any_drop hlt] at hri
    have hpl := hrl _ (List.getElem_mem hlt)
    (repeat (first | refine c_seq ?_ | refine c_reg ?_ | refine c_rnil ?_ | refine c_block ?_ | refine c_skip ?_ | refine c_true ?_ | refine c_op (by first | exact t_move | exact t_assign | exact t_lssT | exact t_len | fail) ?_ | fail))
    refine c_loop (fun k : Nat => [(0, .pu (pSl (eSl eWord) l)), (5, .pu (pI i)), (6, .pu (pI k))])
      (fun k => k ≤ l[i].length ∧ r = (((l[i].drop k).any fun w => decide (w.note ≠ 0)) || (l.drop (i + 1)).any fun p => p.any fun w => decide (w.note ≠ 0))) (fun k => l[i].length - k) 0 ⟨by omega, hri⟩ (by repeat (first | exact trivial | refine ⟨has_rfl rfl, ?_⟩ | fail)) fun k ⟨hk, hrk⟩ ih2 => ?_
    by_cases hlk : k < l[i].length
    · rw [any_drop hlk] at hrk
      by_cases hno : l[i][k].note = 0
      · rw [decide_eq_false (fun h => h hno), Bool.false_or] at hrk
        (repeat (first | refine c_seq ?_ | refine c_reg ?_ | refine c_rnil ?_ | refine c_block ?_ | refine c_inBlock ?_ | refine c_skip ?_ | refine c_true ?_ | refine c_false ?_ | refine c_op (by first | exact t_move | exact t_assign | exact t_add | exact t_lssT | exact t_neqF | exact t_len | exact t_idxN | exact t_load | exact t_fa | fail) ?_ | fail))
        exact (ih2 (k + 1) ⟨by omega, hrk⟩ (by omega)).sub (by repeat (first | exact trivial | refine ⟨has_rfl rfl, ?_⟩ | fail))
      · rw [decide_eq_true hno, Bool.true_or, Bool.true_or] at hrk
        rw [hrk]
        (repeat (first | refine c_seq ?_ | refine c_reg ?_ | refine c_rnil ?_ | refine c_block ?_ | refine c_skip ?_ | refine c_true ?_ | refine c_op (by first | exact t_move | exact t_assign | exact t_lssT | exact t_neqT | exact t_len | exact t_idxN | exact t_load | exact t_fa | fail) ?_ | fail))
        refine c_ret1 Tryd.func30 rfl ?_
        exact fun h => h
    · rw [any_end (by omega), Bool.false_or] at hrk
      (repeat (first | refine c_seq ?_ | refine c_reg ?_ | refine c_rnil ?_ | refine c_inBlock ?_ | refine c_exit ?_ | refine c_false ?_ | refine c_op (by first | exact t_move | exact t_assign | exact t_add | exact t_lssF | exact t_len | exact t_idxN | exact t_load | fail) ?_ | fail))
      exact (ih (i + 1) ⟨by omega, hrk⟩ (by omega)).sub (by repeat (first | exact trivial | refine ⟨has_rfl rfl, ?_⟩ | fail))
  · rw [any_end (by omega)] at hri
    rw [hri]
    (repeat (first | refine c_seq ?_ | refine c_reg ?_ | refine c_rnil ?_ | refine c_exit ?_ | refine c_false ?_ | refine c_op (by first | exact t_move | exact t_assign | exact t_lssF | exact t_len | fail) ?_ | fail))
    refine c_ret1 Tryd.func30 rfl ?_
    exact fun h => h
end Go.Proofs.YtedlipgopicijaaDoor
end

section
namespace Go.Proofs.YtedlipgopicijaaDoor
open Go Go.RowKit
section
variable {P : Program} {f : FuncId} {N : Nat} {R : Value → World → Prop} {fr : Fr} {w : World} {k : List Item} {ops : Array Oper} {n : Nat}
theorem rt_yes {listed : Array Bool} {i j dj : Nat} {want : Bool} {d : Nat} {op : Op} {ty : TypeId} {pos : String} {aft : Array Edge} (hr : Region.ready .any ops listed = [i]) (ho : ops[i]? = some ⟨some d, op, ty, pos, aft, some (j, want)⟩) (hj : (ops[j]?).bind (·.dst) = some dj) (hl : look fr dj = some (.bool want)) (hd : d < N)
    (h : OP P N ⟨some d, op, ty, pos, aft, some (j, want)⟩ fr w (fun v w' => RT P f N ops k R n (listed.setIfInBounds i true) ((d, v) :: fr) w')) : RT P f N ops k R (n + 1) listed fr w := by
  refine ⟨fun a ha => ?_⟩
  refine ⟨(fun h0 => by rw [hr] at h0; cases h0), fun q hq => ?_⟩
  rw [hr] at hq
  simp at hq
  subst hq
  have hy := yielded_of ha hj hl
  unfold wpOp
  simp only [ho]
  rw [if_pos (by simp [Region.wanted, hy])]
  exact .inl (OP.wp (h.mono fun v w' hk => hk.out _ (ha.put v hd)) ha)
end
section
variable {P : Program} {f : FuncId} {N : Nat} {M0 : Mut} {w0 : World} {R : Value → World → Prop} {G : TF} {k : List Item} {n : Nat} {listed : Array Bool}
variable {ops : Array Oper} {d : Nat} {op : Op} {ty : TypeId} {pos : String} {aft : Array Edge} {T : Kd}
theorem q_yes (i : Nat) {j dj : Nat} {want : Bool} {W : List Nat} (hr : Region.ready .any ops listed = [i]) (ho : ops[i]? = some ⟨some d, op, ty, pos, aft, some (j, want)⟩) (h : TOp P N ⟨some d, op, ty, pos, aft, some (j, want)⟩ G W T)
    (hk : RTt P f N M0 w0 ops k R n (listed.setIfInBounds i true) ((d, T) :: dropW W G)) (hj : (ops[j]?).bind (·.dst) = some dj := by rfl) (hg : topP G (.tmp dj) = some (pB want) := by rfl) (hd : d < N := by decide) : RTt P f N M0 w0 ops k R (n + 1) listed G := ⟨fun hrn hf => by
  obtain ⟨v, h1, rfl⟩ := hf.op0 hg (fun _ _ => trivial)
  exact rt_yes hr ho hj h1 hd ((h.fit hrn hf).mono fun _ _ ⟨_, hs, hv⟩ => hk.out (hrn.stw hs) ((hf.after hs).cons hv))⟩
theorem q_yesE (i key : Nat) {j dj : Nat} {want : Bool} {W : List Nat} {β : Type} {T T' : β → Kd} (hr : Region.ready .any ops listed = [i]) (ho : ops[i]? = some ⟨some d, op, ty, pos, aft, some (j, want)⟩) (h : TOpE P N ⟨some d, op, ty, pos, aft, some (j, want)⟩ G W T T')
    (hk : ∀ x, RTt P f N M0 w0 ops k R n (listed.setIfInBounds i true) ((d, T x) :: (key, T' x) :: dropW W G)) (hg' : ∀ x, (T' x).ghost = true := by intro x; rfl) (hj : (ops[j]?).bind (·.dst) = some dj := by rfl) (hg : topP G (.tmp dj) = some (pB want) := by rfl) (hd : d < N := by decide) : RTt P f N M0 w0 ops k R (n + 1) listed G := ⟨fun hrn hf => by
  obtain ⟨v, h1, rfl⟩ := hf.op0 hg (fun _ _ => trivial)
  exact rt_yes hr ho hj h1 hd ((h.fit hrn hf).mono fun _ _ ⟨x, _, hs, hv, hv'⟩ => (hk x).out (hrn.stw hs) (((hf.after hs).hide (Kd.E_of_V (hg' x) hv')).cons hv))⟩
theorem q_open (t key : Nat) {g : Gh} {β : Type} (T T' : β → Kd) (hs : ∀ {B : Nat} {M : Mut} {w : World} {v : Value}, g.p B M w v → ∃ x, (T x).V B M w v ∧ (T' x).V B M w undef)
    (h : ∀ x, RTt P f N M0 w0 ops k R n listed ((t, T x) :: (key, T' x) :: G)) (ht : tlook G t = some (.go g) := by rfl) (hg : ∀ x, (T' x).ghost = true := by intro x; rfl) (hT : ∀ (x : β) (B : Nat) (M : Mut) (w : World) (fr : Fr) (v : Value), look fr t = some v → (T x).V B M w v → (T x).E B M w fr t := by intro x B M w fr v h1 h2; exact ⟨v, h1, h2⟩) :
    RTt P f N M0 w0 ops k R n listed G := ⟨fun hr hf => by
  obtain ⟨v, h1, h2⟩ := hf.out t _ ht (.inr trivial)
  obtain ⟨x, k1, k2⟩ := hs h2
  exact (h x).out hr ((hf.hide (Kd.E_of_V (hg x) k2)).hide (hT x _ _ _ _ _ h1 k1))⟩
end
section
variable {P : Program} {N : Nat} {G : TF} {d : Option Tmp} {ty : TypeId} {pos : String} {aft : Array Edge} {g : Option (Nat × Bool)}
theorem t_lenNm {α : Type} {E : Enc α} {x : Operand} {v : Value} {l : List α} {tag : Nat} {t e e' : TypeId} (key : Nat) (hx : topP G x = some (pv v) := by rfl) (hg : tlook G key = some (.gv v E l tag e') := by rfl) (ht : USl P t e := by infer_instance) :
    TOp P N ⟨d, .call ⟨.builtin .len, #[x], #[t]⟩, ty, pos, aft, g⟩ G [] (.pu (pI l.length)) := .pure [x] (by simp [Op.operands, Call.operands]) fun hf => by
  obtain ⟨_, h0, rfl⟩ := hf.op hx (by simp)
  obtain ⟨h1, _⟩ := hf.out key _ hg (.inl rfl)
  have hl := h1.le
  exact op_len ht.out h0 h1 ⟨rfl, rfl, rng64 (by omega)⟩
theorem t_idxNm {x i : Operand} {v : Value} {rows : List RowD} {tag : Nat} {e' : TypeId} {k : IntKind} {n : Nat} (key : Nat) (hx : topP G x = some (pv v) := by rfl) (hg : tlook G key = some (.gv v eRaw (rows.map RowD.v) tag e') := by rfl) (hi : topP G i = some (pK k (n : Int)) := by rfl)
    (hn : n < rows.length := by omega) : TOp Tryd.prog N ⟨d, .indexAddr 23 x i, ty, pos, aft, g⟩ G [] (.pu (pPtr eRaw (rows[n]'hn).v)) := .pure [x, i] (by simp [Op.operands]) fun {B M w fr} hf => by
  obtain ⟨_, h0, rfl⟩ := hf.op hx (by simp)
  obtain ⟨_, h2, rfl, _⟩ := hf.op hi (by simp)
  obtain ⟨h1, _⟩ := hf.out key _ hg (.inl rfl)
  refine op_indexAddr Tryd.underlying23 teRaw.out h0 h2 h1 (by rw [List.length_map]; omega) fun ad hn' he => ⟨rfl, ad, rfl, ?_⟩
  simpa using he
theorem t_ldRaw {x : Operand} {u : Value} (hx : topP G x = some (pPtr eRaw u) := by rfl) : TOp Tryd.prog N ⟨d, .load 27 x, ty, pos, aft, g⟩ G [] (.pu (pv u)) := t_load hx teRaw ldRaw
theorem t_last {x y : Operand} {argT : Array TypeId} {v : Value} {rows rest : List RowD} {tag tg k : Nat} {e' : TypeId} (kv kr : Nat) (hk : k ≤ 1000000 := by omega) (hx : topP G x = some (pv v) := by rfl) (hy : topP G y = some (pI (k : Int)) := by rfl) (hg : tlook G kv = some (.gv v eRaw (rows.map RowD.v) tag e') := by rfl)
    (hr : tlook G kr = some (.gh (rowsG tg (rows ++ rest))) := by rfl) :
    TOp Tryd.prog N ⟨d, .call ⟨.value (.func 30), #[x, y], argT⟩, ty, pos, aft, g⟩ G [] (.pu (pB (lastM (rows.map RowD.ws) k))) := .up [x, y] (by simp [Op.operands, Call.operands]) fun {M0 w0 M w fr} hrn hf => by
  obtain ⟨v1, h0, e1⟩ := hf.op hx (by simp)
  change v1 = v at e1
  subst e1
  obtain ⟨u, h1, h2⟩ := hf.op hy (by simp)
  obtain ⟨h3, _⟩ := hf.out kv _ hg (.inl rfl)
  obtain ⟨h4, _⟩ := hf.out kr _ hr (.inl rfl)
  have hread := rows_read (M' := fun _ => none) h3 ⟨fun a u hc => ⟨hc.1, fun p hp => by cases hp⟩⟩ (fun r hr' => ⟨(h4 r (List.mem_append_left _ hr')).at_, rfl⟩)
  have hl : Lays (fun _ => none) w := ⟨fun i hi => ⟨(hf.lay.cell i hi).1, fun p hp => by cases hp⟩⟩
  exact op_call ent30 (args := [x, y]) (vs := [v1, u]) (by simp [opvs, h0, h1]) ((last_f hk).run (fun _ => none) w [v1, u] (fun b _ => rfl) hl ⟨hread, h2, trivial⟩) fun v' w' hv => ⟨hv.2, hv.1⟩
def refRow (r : RowD) (n note : Int) : RowD := r.put (refAt r.ws n) { (r.ws[refAt r.ws n]?).getD ⟨emp, emp, 0, 0⟩ with note := note }
theorem t_refer {x y z u : Operand} {argT : Array TypeId} {rows : List RowD} {i : Nat} {tag : Nat} {n note : Int} {later : Bool} (kr : Nat) (hi : i < rows.length) (hn : 0 ≤ n) (hx : topP G x = some (pv (rows[i]'hi).v) := by rfl) (hy : topP G y = some (pI n) := by rfl) (hz : topP G z = some (pI note) := by rfl) (hu : topP G u = some (pB later) := by rfl)
    (hr : tlook G kr = some (.gh (rowsG tag rows)) := by rfl) :
    TOpE Tryd.prog N ⟨d, .call ⟨.value (.func 29), #[x, y, z, u], argT⟩, ty, pos, aft, g⟩ G [tag] (fun _ : Unit => .pu (pB (refOk (rows[i]'hi).ws later))) (fun _ => .gh (rowsG tag (if refOk (rows[i]'hi).ws later = true then rows.set i (refRow (rows[i]'hi) n note) else rows))) :=
  ⟨[x, y, z, u], by simp [Op.operands, Call.operands], fun {M0 w0 M w fr} hrn hf => by
  obtain ⟨_, h0, rfl⟩ := hf.op hx (by simp)
  obtain ⟨_, h1, rfl, r1⟩ := hf.op hy (by simp)
  obtain ⟨_, h2, rfl, r2⟩ := hf.op hz (by simp)
  obtain ⟨_, h3, rfl⟩ := hf.op hu (by simp)
  obtain ⟨h4, h5⟩ := hf.out kr _ hr (.inl rfl)
  have hok := h4 _ (List.getElem_mem hi)
  refine op_call ent29 (args := [x, y, z, u]) (vs := [(rows[i]'hi).v, .int .i64 n, .int .i64 note, .bool later]) (by simp [opvs, h0, h1, h2, h3]) (refer_c hok hn (r1.1 rfl) (r2.1 rfl)) fun v w' hv => ?_
  split at hv
  · rename_i hro
    obtain ⟨hi2, rfl, k1, k2, k3⟩ := hv
    refine ⟨(), M, StW.st k2, by rw [hro]; rfl, ?_⟩
    rw [if_pos hro]
    have hrow : refRow (rows[i]'hi) n note = (rows[i]'hi).put (refAt (rows[i]'hi).ws n) { (rows[i]'hi).ws[refAt (rows[i]'hi).ws n] with note := note } := by
      unfold refRow
      rw [List.getElem?_eq_getElem hi2]
      rfl
    refine ⟨fun r hr' => ?_, ?_⟩
    · obtain ⟨j, hj, rfl⟩ := List.mem_iff_getElem.1 hr'
      rw [List.length_set] at hj
      rw [List.getElem_set]
      split
      · rw [hrow]; exact k1
      · rename_i hne
        have hokj := h4 _ (List.getElem_mem hj)
        have hb : rows[j].b ≠ rows[i].b := fun e => by
          have hnd := List.pairwise_iff_getElem.1 h5
          rcases Nat.lt_or_ge i j with hlt | hge
          · exact hnd i j (by simpa using hi) (by simpa using hj) hlt (by simp [e])
          · exact hnd j i (by simpa using hj) (by simpa using hi) (by omega) (by simp [e])
        exact ⟨hokj.ge, hokj.at_.same (k3 _ hb), hokj.mark⟩
    · have e : (rows.set i (refRow (rows[i]'hi) n note)).map RowD.b = rows.map RowD.b := by
        apply List.ext_getElem (by simp)
        intro j h1 h2
        simp only [List.getElem_map, List.getElem_set]
        split
        · rename_i e; subst e; rfl
        · rfl
      rw [e]
      exact h5
  · rename_i hro
    obtain ⟨rfl, rfl⟩ := hv
    refine ⟨(), M, StW.mono (W := []) (by simp) (StW.refl _ _ _), by rw [Bool.not_eq_true] at hro; rw [hro]; rfl, ?_⟩
    rw [if_neg hro]
    exact ⟨h4, h5⟩⟩
theorem t_loadAgg {x : Operand} {b tag : Nat} {cs z : List Value} {t e : TypeId} {by' sz : Nat} (key : Nat) (hT : TD P t sz by' true z) (hx : topP G x = some (pCe b 0) := by rfl) (hg : tlook G key = some (.bx b tag cs e) := by rfl) (hl : cs.length = sz := by rfl) :
    TOp P N ⟨d, .load t x, ty, pos, aft, g⟩ G [] (.pu (pv (.agg cs.toArray))) := .pure [x] (by simp [Op.operands]) fun {B M w fr} hf => by
  obtain ⟨_, k0, rfl⟩ := hf.op hx (by simp)
  obtain ⟨_, hbx⟩ := hf.out key _ hg (.inl rfl)
  refine op_loadn hT k0 hbx (by omega) ⟨rfl, ?_⟩
  rw [List.drop_zero, List.take_of_length_le (by omega)]
  rfl
theorem t_stAg {x y : Operand} {b tag : Nat} {cs c z : List Value} {t e : TypeId} {sz by' : Nat} (key : Nat) (hT : TD P t sz by' true z) (h1 : ∀ u ∈ c, u.oneCell' = true) (hx : topP G x = some (pCe b 0) := by rfl) (hg : tlook G key = some (.bx b tag cs e) := by rfl) (hy : topP G y = some (pv (.agg c.toArray)) := by rfl)
    (hs : c.length = sz := by rfl) (hl : c.length = cs.length := by rfl) :
    TOp P N ⟨d, .store t x y, ty, pos, aft, g⟩ G [tag] (.bx b tag c e) := ⟨[x, y], by simp [Op.operands], fun {M0 w0 M w fr} hr hf => by
  obtain ⟨_, k0, rfl⟩ := hf.op hx (by simp)
  obtain ⟨_, k1, rfl⟩ := hf.op hy (by simp)
  obtain ⟨hB, hbx⟩ := hf.out key _ hg (.inl rfl)
  refine op_store hT k0 k1 (c := c) (by simp [Value.cells]) h1 hs hr hB hbx (by omega) fun w' hb' hst => ⟨M, StW.st hst, hB, ?_⟩
  have hsp : splice cs 0 c = c := by
    unfold splice
    rw [List.take_zero, List.nil_append, List.drop_of_length_le (by omega), List.append_nil]
  rwa [hsp] at hb'⟩
end
instance focTx0 : FOc Tryd.prog 25 0 0 := ⟨fdT0⟩
instance focTx1 : FOc Tryd.prog 25 1 1 := ⟨fdT1⟩
instance t1cSSW : T1c Tryd.prog 23 := ⟨24, _, tdSSW⟩
end Go.Proofs.YtedlipgopicijaaDoor
end

section
namespace Go.Proofs.YtedlipgopicijaaDoor
open Go Go.RowKit
def row0 (l : List Int) (j : Nat) : List Wd := partM (pickM l (2 + j) 1000000) 40
def paras0 (l : List Int) : List (List Wd) := (List.range ((pickM l 0 4).toNat + 1)).map (row0 l)
def findK (ps : List (List Wd)) : Nat → Nat → Option Nat
  | _, 0 => none
  | k, f + 1 => if refOk ((ps[k]?).getD []) (lastM ps k) = true then some k else findK ps (k + 1) f
def putRef (ws : List Wd) (n note : Int) : List Wd := ws.set (refAt ws n) { (ws[refAt ws n]?).getD ⟨emp, emp, 0, 0⟩ with note := note }
def noteStep (t : Tx) (n : Int) : Tx := match findK t.paras 0 t.paras.length with
  | none => t
  | some k => ⟨t.paras.set k (putRef ((t.paras[k]?).getD []) n (t.notes.length + 1)), t.notes ++ [partM n 12]⟩
def textN (l : List Int) (c : Nat) : Tx := (List.range c).foldl (fun t (i : Nat) => noteStep t (pickM l (6 + i) 1000000)) ⟨paras0 l, []⟩
def textM (l : List Int) : Tx := textN l (pickM l 1 4).toNat
theorem textN_succ (l : List Int) (c : Nat) : textN l (c + 1) = noteStep (textN l c) (pickM l (6 + c) 1000000) := by
  unfold textN
  rw [List.range_succ, List.foldl_append]; rfl
def TxOk (B : Nat) (M : Mut) (w : World) (tag : Nat) (rows nrows : List RowD) (v : Value) : Prop :=
  (∃ pv nv, v = .agg #[pv, nv] ∧ SlOf eRaw M w pv (rows.map RowD.v) ∧ SlOf eRaw M w nv (nrows.map RowD.v)) ∧ (rowsG tag (rows ++ nrows)).p B M w undef
def RetTx (M0 : Mut) (w0 : World) (t : Tx) : Value → World → Prop := fun v w =>
  Below w0.heap.size w0 w ∧ ∀ tag, ∃ M', UpM M0 w0 M' w ∧ ∃ rows nrows, rows.map RowD.ws = t.paras ∧ nrows.map RowD.ws = t.notes ∧ TxOk w0.heap.size M' w tag rows nrows v
structure FnTx (P : Program) (g : FuncId) (Ps : List Pub) (t : Tx) : Prop where
  ent : Ent P g
  run : ∀ M w vs, MB M w → Lays M w → FitL M w Ps vs → CallsV P g vs w (RetTx M w t)
theorem fnTx_of {P : Program} {f : FuncId} {N : Nat} {fn : Func} {c : Code} {Ps : List Pub} {t : Tx} (he : Ent P f) (hf : P.funcs[f]? = some fn) (hb : fn.body = some c) (hN : fn.ntmps = N) (hn : Nat.ble Ps.length N = true)
    (h : ∀ M0 w0, Rt P f N M0 w0 [.code c] (argTF 0 Ps) (RetTx M0 w0 t)) : FnTx P f Ps t := ⟨he, fun M w vs hm hl hv => by
  have hlen := hv.len
  exact callsV_of_run hf hb hN (by rw [hlen]; exact Nat.le_of_ble_eq_true hn) ((h M w).out (Rn.refl hm) (fit_args hl 0 hv))⟩
section
variable {P : Program} {f : FuncId} {N : Nat} {M0 : Mut} {w0 : World} {R : Value → World → Prop} {G : TF} {k : List Item}
theorem c_gvSl {todo : List Item} {α : Type} {E : Enc α} {v : Value} {l : List α} {tag : Nat} {e : TypeId} (key : Nat) (h : v.oneCell' = true → Rt P f N M0 w0 todo G R) (hg : tlook G key = some (.gv v E l tag e) := by rfl) : Rt P f N M0 w0 todo G R := ⟨fun hr hf => by
  obtain ⟨h1, _⟩ := hf.out key _ hg (.inr trivial)
  obtain ⟨a, cap, e, _⟩ := h1.ex
  exact (h (by rw [e]; rfl)).out hr hf⟩
theorem c_retTx {fn : Func} {t b tag tg e1 e2 tb tn : Nat} {e : TypeId} {pv nv : Value} {rows nrows : List RowD} {tx : Tx} (hf : Tryd.prog.funcs[f]? = some fn) (hr : fn.results = #[.cell t 25]) (key kp kn kr : Nat) (h1 : rows.map RowD.ws = tx.paras) (h2 : nrows.map RowD.ws = tx.notes)
    (hp : topP G (.tmp t) = some (pCe b 0) := by rfl) (hg : tlook G key = some (.bx b tag [pv, nv] e) := by rfl) (hgp : tlook G kp = some (.gv pv eRaw (rows.map RowD.v) tb e1) := by rfl) (hgn : tlook G kn = some (.gv nv eRaw (nrows.map RowD.v) tn e2) := by rfl) (hgr : tlook G kr = some (.gh (rowsG tg (rows ++ nrows))) := by rfl) :
    Rt Tryd.prog f N M0 w0 (.code .ret :: k) G (RetTx M0 w0 tx) := ⟨fun {M w fr} hrn hfit => by
  obtain ⟨v, q1, rfl⟩ := hfit.op0 hp (fun _ _ => trivial)
  obtain ⟨hB, hbx⟩ := hfit.out key _ hg (.inr trivial)
  obtain ⟨p1, _⟩ := hfit.out kp _ hgp (.inr trivial)
  obtain ⟨n1, _⟩ := hfit.out kn _ hgn (.inr trivial)
  obtain ⟨r1, r2⟩ := hfit.out kr _ hgr (.inr trivial)
  refine run_retc hf hr q1 tdT hbx rfl ⟨hrn.bel, fun tag' => ?_⟩
  refine ⟨fun c => if c ∈ (rows ++ nrows).map RowD.b then some (0, tag') else M0 c, ⟨hrn.bel, fun c hc => ?_, fun hmb c hc => ?_⟩, rows, nrows, h1, h2, ⟨pv, nv, rfl, ?_, ?_⟩, fun r hr' => ⟨(r1 r hr').ge, (r1 r hr').at_, ?_⟩, r2⟩
  · rw [if_neg]
    intro hm
    obtain ⟨r, hr', e⟩ := List.mem_map.1 hm
    have := (r1 r hr').ge
    omega
  · rw [if_neg]
    · exact hmb c (Nat.le_trans hrn.bel.size hc)
    · intro hm
      obtain ⟨r, hr', e⟩ := List.mem_map.1 hm
      have := (r1 r hr').at_.lt
      omega
  · refine p1.mono ⟨fun a u hc => ⟨hc.1, fun p hp => ?_⟩⟩
    simp only at hp
    split at hp
    · rename_i hm
      obtain ⟨r, hr', e⟩ := List.mem_map.1 hm
      have := hc.2 _ (e ▸ (r1 r hr').mark)
      exact absurd this (Nat.not_lt_zero _)
    · exact (hrn.fin.cell a u hc).2 p hp
  · refine n1.mono ⟨fun a u hc => ⟨hc.1, fun p hp => ?_⟩⟩
    simp only at hp
    split at hp
    · rename_i hm
      obtain ⟨r, hr', e⟩ := List.mem_map.1 hm
      have := hc.2 _ (e ▸ (r1 r hr').mark)
      exact absurd this (Nat.not_lt_zero _)
    · exact (hrn.fin.cell a u hc).2 p hp
  · rw [if_pos (List.mem_map.2 ⟨r, hr', rfl⟩)]⟩
end
theorem FnTx.fn {P : Program} {g : FuncId} {Ps : List Pub} {t : Tx} (h : FnTx P g Ps t) : Fn P g Ps (pV eText t) := ⟨h.ent, fun M w vs hm hl hf => (h.run M w vs hm hl hf).mono fun v w' ⟨hb, hv⟩ => by
  obtain ⟨M', hup, rows, nrows, e1, e2, ⟨pv, nv, rfl, p1, n1⟩, r1, r2⟩ := hv 0
  have hfin : X M' w' M w' := (Rn.up (Rn.refl hm) hup).fin
  have hM : ∀ r ∈ rows ++ nrows, RowAt w' r ∧ M r.b = none := fun r hr => ⟨(r1 r hr).at_, hm _ (r1 r hr).ge⟩
  have q1 := rows_read p1 hfin (fun r hr => hM r (List.mem_append_left _ hr))
  have q2 := rows_read n1 hfin (fun r hr => hM r (List.mem_append_right _ hr))
  rw [e1] at q1
  rw [e2] at q2
  exact ⟨⟨[pv, nv], ⟨[pv], [nv], rfl, ⟨pv, rfl, q1⟩, ⟨nv, rfl, q2⟩⟩, rfl⟩, hb⟩⟩
end Go.Proofs.YtedlipgopicijaaDoor
end

section
namespace Go.Proofs.YtedlipgopicijaaDoor
open Go Go.RowKit
theorem findK_all {ps : List (List Wd)} {k f : Nat} (h : refOk ((ps[k]?).getD []) (lastM ps k) = true) : findK ps k (f + 1) = some k := by simp only [findK, h, if_true]
theorem findK_next {ps : List (List Wd)} {k f : Nat} (h : ¬ refOk ((ps[k]?).getD []) (lastM ps k) = true) : findK ps k (f + 1) = findK ps (k + 1) f := by simp only [findK, if_neg h]
theorem put_v (r : RowD) (n : Nat) (x : Wd) : (r.put n x).v = r.v := by unfold RowD.put RowD.v; simp
theorem rset_same {α β : Type} {f : α → β} {l : List α} {k : Nat} {x : α} (h : k < l.length) (e : f x = f l[k]) : (l.set k x).map f = l.map f := by
  apply List.ext_getElem (by simp)
  intro j h1 h2
  simp only [List.getElem_map, List.getElem_set]
  split
  · rename_i e2; subst e2; exact e
  · rfl
set_option maxHeartbeats 16000000 in
theorem text_f {l : List Int} : FnTx Tryd.prog 8 [pSl eI l] (textM l) := by
  refine fnTx_of ent8 Tryd.func8 rfl Tryd.ntmps8 rfl fun M0 w0 => ?_
  refine c_have 0 (fun h => i_len26 h) fun hl => ?_
  have hc0 := pickM_bd l 0 4 (by omega)
  have hc1 := pickM_bd l 1 4 (by omega)
  obtain ⟨c0, hc0'⟩ : ∃ c : Nat, (c : Int) = pickM l 0 4 := ⟨(pickM l 0 4).toNat, by omega⟩
  obtain ⟨c1, hc1'⟩ : ∃ c : Nat, (c : Int) = pickM l 1 4 := ⟨(pickM l 1 4).toNat, by omega⟩
  (repeat (first | refine c_seq ?_ | refine c_reg ?_ | refine (c_allocB 15 100 tdT) ?_ | fail))
  intro b2
  (repeat (first | refine c_seq ?_ | refine c_reg ?_ | refine c_rnil ?_ | refine (c_allocB 14 101 tdT) ?_ | fail))
  intro b3
  (repeat (first | refine c_seq ?_ | refine c_reg ?_ | refine c_rnil ?_ | refine c_block ?_ | refine c_op (by first | exact t_call (h := (pick_f (by omega))) | exact t_move | exact t_assign | fail) ?_ | fail))
  refine c_nilV eRaw 11 27 102 ?_
  refine c_gnew 200 (.gh (rowsG 12 [])) (fun {B M w} => ⟨(fun r hr => by cases hr), List.nodup_nil⟩) ?_
  refine c_loop (fun x : Nat × Value × List RowD => [(0, .pu (pSl eI l)), (2, .pu (pCe b2 0)), (100, .bx b2 15 [.slice none 0 0, .slice none 0 0] 25), (3, .pu (pCe b3 0)), (101, .bx b3 14 [x.2.1, .slice none 0 0] 25), (102, .gv x.2.1 eRaw (x.2.2.map RowD.v) 11 27), (200, .gh (rowsG 12 x.2.2)), (4, .pu (pI (pickM l 1 4))), (5, .pu (pI x.1))])
    (fun x => x.1 ≤ c0 + 1 ∧ x.2.2.map RowD.ws = (List.range x.1).map (row0 l)) (fun x => c0 + 1 - x.1) (0, .slice none 0 0, []) ⟨by simp, rfl⟩ (by repeat (first | exact trivial | refine ⟨has_rfl rfl, ?_⟩ | fail)) ?_
  rintro ⟨i, pv0, rows⟩ ⟨hi, hrows⟩ ih
  dsimp only at hi hrows ih ⊢
  have hrl : rows.length = i := by have := congrArg List.length hrows; simpa using this
  by_cases hlt : i ≤ c0
  · have hp := pickM_bd l (2 + i) 1000000 (by omega)
    have pf := part_f (most := 40) hp.1 (by omega)
    (repeat (first | refine c_seq ?_ | refine c_reg ?_ | refine c_rnil ?_ | refine c_block ?_ | refine c_skip ?_ | refine c_true ?_ | refine c_op (by first | exact t_call (h := (pick_f (by omega))) | exact t_move | exact t_leqT | fail) ?_ | fail))
    refine c_draw {} 8 3 [] [] mixed (by kernel_rfl) rfl rfl ?_
    (repeat (first | refine d_op (by first | exact t_call (h := (pick_f (by omega))) | exact (t_faB) | exact (t_loadB 101) | exact (t_callO 200 pf) | exact (t_bsRaw) | exact t_move | exact t_add | fail) ?_ | fail))
    refine d_nil ?_
    refine q_open 24 201 (g := rawG 12 (row0 l i) (rows.map RowD.b)) (β := { r : RowD // r.ws = row0 l i ∧ r.b ∉ rows.map RowD.b }) (fun r => .pu (pSl eRaw [r.1.v])) (fun r => .gh (row1G 12 r.1)) (fun ⟨r, h1, h2, h3, h4⟩ => ⟨⟨r, h1, h4⟩, h2, h3⟩) ?_
    rintro ⟨r, hrw, hrn⟩
    refine q_op 8 (by kernel_rfl) rfl (t_appV 102 (hE := teRaw)) ?_
    refine q_name 25 102 fun pv1 => ?_
    refine q_op 9 (by kernel_rfl) rfl t_faB ?_
    refine q_st 10 101 (by kernel_rfl) rfl (t_stV 101 102) ?_
    refine q_nil ?_ (by kernel_rfl)
    refine c_gh2 200 201 200 (.gh (rowsG 12 (rows ++ [r]))) (rows_snoc hrn) ?_
    (repeat (first | refine c_reg ?_ | refine c_rnil ?_ | refine c_inBlock ?_ | refine c_op (by first | exact t_move | exact t_assign | exact t_add | fail) ?_ | fail))
    refine (ih (i + 1, pv1, rows ++ [r]) ⟨by dsimp only; omega, ?_⟩ (by dsimp only; omega)).sub ?_
    · dsimp only
      rw [List.map_append, hrows, List.range_succ, List.map_append, List.map_cons, List.map_nil, hrw]
      rfl
    · dsimp only
      rw [List.map_append, List.map_cons, List.map_nil]
      (repeat' (first | exact trivial | refine ⟨?_, ?_⟩ | fail)) <;> (try first | exact has_rfl rfl | exact has_nil rfl | exact has_nilS rfl | exact has_gr rfl | exact has_nilGo rfl | exact has_int rfl (by first | omega | fail) | fail)
  · have hi1 : i = c0 + 1 := by omega
    have hpar : rows.map RowD.ws = paras0 l := by rw [hrows, hi1]; unfold paras0; rw [← hc0', Int.toNat_natCast]
    (repeat (first | refine c_seq ?_ | refine c_reg ?_ | refine c_rnil ?_ | refine c_block ?_ | refine c_exit ?_ | refine c_false ?_ | refine c_op (by first | exact t_call (h := (pick_f (by omega))) | exact t_move | exact t_assign | exact t_leqF | fail) ?_ | fail))
    refine c_nilV eRaw 13 27 103 ?_
    refine c_gh 200 200 (.gh (rowsG 12 (rows ++ []))) (fun h => by rw [List.append_nil]; exact h) ?_
    refine c_loop (fun x : Nat × Value × Value × List RowD × List RowD => [(0, .pu (pSl eI l)), (2, .pu (pCe b2 0)), (100, .bx b2 15 [.slice none 0 0, .slice none 0 0] 25), (3, .pu (pCe b3 0)), (101, .bx b3 14 [x.2.1, x.2.2.1] 25), (102, .gv x.2.1 eRaw (x.2.2.2.1.map RowD.v) 11 27), (103, .gv x.2.2.1 eRaw (x.2.2.2.2.map RowD.v) 13 27), (200, .gh (rowsG 12 (x.2.2.2.1 ++ x.2.2.2.2))), (4, .pu (pI c1)), (6, .pu (pI x.1))])
      (fun x => x.1 ≤ c1 ∧ x.2.2.2.1.map RowD.ws = (textN l x.1).paras ∧ x.2.2.2.2.map RowD.ws = (textN l x.1).notes ∧ x.2.2.2.1.length ≤ 4 ∧ x.2.2.2.2.length ≤ x.1) (fun x => c1 - x.1) (0, pv0, .slice none 0 0, rows, []) ⟨by simp, hpar, rfl, by dsimp only; omega, by simp⟩ ?_ ?_
    · dsimp only
      rw [hc1']
      (repeat' (first | exact trivial | refine ⟨?_, ?_⟩ | fail)) <;> (try first | exact has_rfl rfl | exact has_nil rfl | exact has_nilS rfl | exact has_gr rfl | exact has_nilGo rfl | exact has_int rfl (by first | omega | fail) | fail)
    clear ih hrows hpar hrl hi hlt hi1
    rintro ⟨i, pv0, nv0, rows, nrows⟩ ⟨hi, hrows, hnrows, hrl, hnl⟩ ih
    dsimp only at hi hrows hnrows hrl hnl ih ⊢
    by_cases hlt : i < c1
    · have hp := pickM_bd l (6 + i) 1000000 (by omega)
      obtain ⟨n, hn⟩ : ∃ n, n = pickM l (6 + i) 1000000 := ⟨_, rfl⟩
      have hstep := textN_succ l i
      rw [← hn] at hstep hp
      have hpl : (textN l i).paras.length = rows.length := by rw [← hrows]; simp
      have hnl2 : (textN l i).notes.length = nrows.length := by rw [← hnrows]; simp
      (repeat (first | refine c_seq ?_ | refine c_reg ?_ | refine c_rnil ?_ | refine c_block ?_ | refine c_skip ?_ | refine c_true ?_ | refine c_op (by first | exact t_call (h := (pick_f (by omega))) | exact t_move | exact t_assign | exact t_add | exact t_lssT | fail) ?_ | fail))
      rw [← hn]
      refine c_loop (fun k : Nat => [(0, .pu (pSl eI l)), (2, .pu (pCe b2 0)), (100, .bx b2 15 [.slice none 0 0, .slice none 0 0] 25), (3, .pu (pCe b3 0)), (101, .bx b3 14 [pv0, nv0] 25), (102, .gv pv0 eRaw (rows.map RowD.v) 11 27), (103, .gv nv0 eRaw (nrows.map RowD.v) 13 27), (200, .gh (rowsG 12 (rows ++ nrows))), (4, .pu (pI c1)), (6, .pu (pI i)), (7, .pu (pI n)), (8, .pu (pI k))])
        (fun k => k ≤ rows.length ∧ findK (textN l i).paras 0 (textN l i).paras.length = findK (textN l i).paras k (rows.length - k)) (fun k => rows.length - k) 0 ⟨by omega, by rw [hpl]; rfl⟩ (by repeat (first | exact trivial | refine ⟨has_rfl rfl, ?_⟩ | fail)) fun k hk ih2 => ?_
      obtain ⟨hk, hfk⟩ := hk
      by_cases hlk : k < rows.length
      · have hget : ((textN l i).paras[k]?).getD [] = rows[k].ws := by
          rw [← hrows, List.getElem?_map, List.getElem?_eq_getElem hlk]; rfl
        have hlast : lastM (rows.map RowD.ws) k = lastM (textN l i).paras k := by rw [hrows]
        have hll : k < (rows.map RowD.v).length := by simpa using hlk
        have hlen1 : (rows.map RowD.v).length = rows.length := by simp
        have hlen2 : (nrows.map RowD.v).length = nrows.length := by simp
        have hka : k < (rows ++ nrows).length := by rw [List.length_append]; omega
        have hgetA : (rows ++ nrows)[k]'hka = rows[k] := List.getElem_append_left hlk
        rw [show rows.length - k = (rows.length - (k + 1)) + 1 by omega] at hfk
        (repeat (first | refine c_seq ?_ | fail))
        refine c_draw {} 20 3 [] [] mixed (by kernel_rfl) rfl rfl ?_
        (repeat (first | refine d_op (by first | exact (t_faB) | exact (t_loadB 101) | exact (t_lenNm 102) | exact t_move | exact t_lssT | fail) ?_ | refine d_yes (by first | exact (t_faB) | exact (t_loadB 101) | exact (t_lenNm 103) | exact (t_idxNm 102) | exact (t_ldRaw) | exact (t_last (k := k) 102 200) | exact t_move | exact t_add | fail) ?_ | fail))
        refine d_nil ?_
        rw [hlast]
        refine q_yesE 20 200 (by kernel_rfl) rfl (t_refer (i := k) 200 hka hp.1 (by rw [hgetA]; rfl)) fun _ => ?_
        refine q_yes 21 (by kernel_rfl) rfl t_not ?_
        rw [hgetA]
        cases hro : refOk rows[k].ws (lastM (textN l i).paras k)
        · rw [findK_next (by rw [hget, hro]; decide)] at hfk
          refine q_op 22 (by kernel_rfl) rfl t_pickT ?_
          refine q_nil ?_ (by kernel_rfl)
          (repeat (first | refine c_reg ?_ | refine c_rnil ?_ | refine c_block ?_ | refine c_inBlock ?_ | refine c_skip ?_ | refine c_true ?_ | refine c_op (by first | exact t_move | exact t_assign | exact t_add | fail) ?_ | fail))
          exact (ih2 (k + 1) ⟨by omega, hfk⟩ (by omega)).sub (by repeat (first | exact trivial | refine ⟨has_rfl rfl, ?_⟩ | fail))
        · rw [findK_all (by rw [hget, hro])] at hfk
          refine q_op 22 (by kernel_rfl) rfl t_pickT ?_
          refine q_nil ?_ (by kernel_rfl)
          have hset : (rows ++ nrows).set k (refRow rows[k] n ((nrows.map RowD.v).length + 1)) = rows.set k (refRow rows[k] n ((nrows.map RowD.v).length + 1)) ++ nrows := List.set_append_left _ _ hlk
          obtain ⟨rows', hrows'⟩ : ∃ r, r = rows.set k (refRow rows[k] n ((nrows.map RowD.v).length + 1)) := ⟨_, rfl⟩
          have hv' : rows.map RowD.v = rows'.map RowD.v := by rw [hrows']; exact (rset_same hlk (put_v _ _ _)).symm
          have pf := part_f (most := 12) hp.1 (by omega)
          rw [← hrows'] at hset
          (repeat (first | refine c_seq ?_ | refine c_reg ?_ | refine c_rnil ?_ | refine c_exit ?_ | refine c_true ?_ | refine c_false ?_ | refine c_op (by first | exact (t_faB) | exact (t_loadB 101) | exact (t_lenNm 102) | exact t_move | exact t_lssT | fail) ?_ | fail))
          refine c_gh 200 200 (g := rowsG 12 (if true = true then (rows ++ nrows).set k (refRow rows[k] n ((nrows.map RowD.v).length + 1)) else rows ++ nrows)) (.gh (rowsG 12 (rows' ++ nrows))) (fun h => by rw [if_pos rfl, hset] at h; exact h) ?_
          refine c_draw {} 5 3 [] [] mixed (by kernel_rfl) rfl rfl ?_
          (repeat (first | refine d_op (by first | exact (t_faB) | exact (t_loadB 101) | exact (t_callO 200 pf) | exact (t_bsRaw) | exact t_move | fail) ?_ | fail))
          refine d_nil ?_
          refine q_open 70 201 (g := rawG 12 (partM n 12) ((rows' ++ nrows).map RowD.b)) (β := { r : RowD // r.ws = partM n 12 ∧ r.b ∉ (rows' ++ nrows).map RowD.b }) (fun r => .pu (pSl eRaw [r.1.v])) (fun r => .gh (row1G 12 r.1)) (fun ⟨r, h1, h2, h3, h4⟩ => ⟨⟨r, h1, h4⟩, h2, h3⟩) ?_
          rintro ⟨r, hrw, hrn⟩
          refine q_op 5 (by kernel_rfl) rfl (t_appV 103 (hE := teRaw)) ?_
          refine q_name 71 103 fun nv1 => ?_
          refine q_op 6 (by kernel_rfl) rfl t_faB ?_
          refine q_st 7 101 (by kernel_rfl) rfl (t_stV 101 103) ?_
          refine q_nil ?_ (by kernel_rfl)
          refine c_gh2 200 201 200 (.gh (rowsG 12 ((rows' ++ nrows) ++ [r]))) (rows_snoc hrn) ?_
          (repeat (first | refine c_reg ?_ | refine c_rnil ?_ | refine c_inBlock ?_ | refine c_op (by first | exact t_move | exact t_assign | exact t_add | fail) ?_ | fail))
          have hns : noteStep (textN l i) n = ⟨(textN l i).paras.set k (putRef (((textN l i).paras[k]?).getD []) n ((textN l i).notes.length + 1)), (textN l i).notes ++ [partM n 12]⟩ := by
            unfold noteStep
            rw [hfk]
          refine (ih (i + 1, pv0, nv1, rows', nrows ++ [r]) ⟨by dsimp only; omega, ?_, ?_, ?_, ?_⟩ (by dsimp only; omega)).sub ?_
          · dsimp only
            rw [hstep, hns, hget, hrows', List.map_set, hrows]
            dsimp only
            rw [hlen2, ← hnl2]
            rfl
          · dsimp only
            rw [hstep, hns, List.map_append, hnrows]
            dsimp only
            rw [List.map_cons, List.map_nil, hrw]
          · dsimp only
            rw [hrows', List.length_set]; exact hrl
          · dsimp only
            rw [List.length_append, List.length_singleton]; omega
          · dsimp only
            rw [← hv', List.map_append, List.map_cons, List.map_nil, ← List.append_assoc]
            (repeat' (first | exact trivial | refine ⟨?_, ?_⟩ | fail)) <;> (try first | exact has_rfl rfl | exact has_nil rfl | exact has_nilS rfl | exact has_gr rfl | exact has_nilGo rfl | exact has_int rfl (by first | omega | fail) | fail)
      · have hkl : k = rows.length := by omega
        have hfn : findK (textN l i).paras 0 (textN l i).paras.length = none := by
          rw [hfk, show rows.length - k = 0 by omega]
          rfl
        have hlen1 : (rows.map RowD.v).length = rows.length := by simp
        have hns : noteStep (textN l i) n = textN l i := by
          unfold noteStep
          rw [hfn]
        (repeat (first | refine c_seq ?_ | fail))
        refine c_draw0 mixed (by kernel_rfl) ?_
        (repeat (first | refine d_op (by first | exact (t_faB) | exact (t_loadB 101) | exact (t_lenNm 102) | exact t_move | exact t_pickF | exact t_lssF | fail) ?_ | refine d_no ?_ | fail))
        refine d_nil (q_nil ?_ (by kernel_rfl))
        (repeat (first | refine c_seq ?_ | refine c_reg ?_ | refine c_rnil ?_ | refine c_inBlock ?_ | refine c_exit ?_ | refine c_skip ?_ | refine c_false ?_ | refine c_op (by first | exact (t_faB) | exact (t_loadB 101) | exact (t_lenNm 102) | exact t_move | exact t_assign | exact t_add | exact t_lssF | fail) ?_ | fail))
        refine (ih (i + 1, pv0, nv0, rows, nrows) ⟨by dsimp only; omega, ?_, ?_, hrl, by dsimp only; omega⟩ (by dsimp only; omega)).sub (by repeat (first | exact trivial | refine ⟨has_rfl rfl, ?_⟩ | fail))
        · dsimp only
          rw [hstep, hns, hrows]
        · dsimp only
          rw [hstep, hns, hnrows]
    · have hic : i = c1 := by omega
      have htm : textN l i = textM l := by unfold textM; rw [hic, ← hc1', Int.toNat_natCast]
      rw [htm] at hrows hnrows
      refine c_gvSl 102 fun o1 => ?_
      refine c_gvSl 103 fun o2 => ?_
      (repeat (first | refine c_seq ?_ | refine c_reg ?_ | refine c_rnil ?_ | refine c_exit ?_ | refine c_false ?_ | refine c_op (by first | exact (t_loadAgg 101 tdT) | exact t_move | exact t_lssF | fail) ?_ | fail))
      refine c_st 100 (t_stAg 100 tdT (c := [pv0, nv0]) (fun u hu => by
        simp only [List.mem_cons, List.not_mem_nil, or_false] at hu
        rcases hu with rfl | rfl
        · exact o1
        · exact o2)) ?_
      (repeat (first | refine c_rnil ?_ | fail))
      exact c_retTx Tryd.func8 rfl 100 102 103 200 hrows hnrows
end Go.Proofs.YtedlipgopicijaaDoor
end

section
namespace Go.Proofs.YtedlipgopicijaaDoor
open Go Go.RowKit
theorem wErr_note {w : Wd} {next n : Int} (h : wErr w next n = 0) (h0 : w.note ≠ 0) : w.note = next ∧ w.note ≤ n := by
  unfold wErr at h
  split at h
  · cases h
  · split at h
    · cases h
    · split at h
      · cases h
      · rename_i h3
        refine ⟨Classical.byContradiction fun hc => h3 ⟨h0, .inl hc⟩, ?_⟩
        by_cases hc : n < w.note
        · exact absurd ⟨h0, .inr hc⟩ h3
        · omega
theorem chkA_drop {n : Int} {K : Int → Int} {l : List (List Wd)} {i : Nat} (h : i < l.length) (next : Int) : chkA n K (l.drop i) next = chkP n (chkA n K (l.drop (i + 1))) l[i] next := by
  rw [List.drop_eq_getElem_cons h]; rfl
theorem chkP_drop {n : Int} {K : Int → Int} {l : List Wd} {i : Nat} (h : i < l.length) (next : Int) : chkP n K (l.drop i) next = if wErr l[i] next n ≠ 0 then wErr l[i] next n else chkP n K (l.drop (i + 1)) (if l[i].note ≠ 0 then next + 1 else next) := by
  rw [List.drop_eq_getElem_cons h]; rfl
theorem chkB_drop {K : Int} {l : List (List Wd)} {i : Nat} (h : i < l.length) : chkB K (l.drop i) = chkQ (chkB K (l.drop (i + 1))) l[i] := by
  rw [List.drop_eq_getElem_cons h]; rfl
theorem chkQ_drop {K : Int} {l : List Wd} {i : Nat} (h : i < l.length) : chkQ K (l.drop i) = if wErr l[i] 0 0 ≠ 0 then wErr l[i] 0 0 else chkQ K (l.drop (i + 1)) := by
  rw [List.drop_eq_getElem_cons h]; rfl
set_option maxHeartbeats 4000000 in
theorem checkR_f {t : Tx} : Fn Tryd.prog 33 [pV eText t] (pI (chkT t)) := by
  refine fn_of ent33 Tryd.func33 rfl Tryd.ntmps33 rfl fun M0 w0 => ?_
  obtain ⟨r, hr⟩ : ∃ r, r = chkT t := ⟨_, rfl⟩
  rw [← hr]
  by_cases hs : sizeM t = 0
  rotate_left
  · rw [show r = sizeM t by rw [hr]; unfold chkT; rw [if_pos hs]]
    (repeat (first | refine c_seq ?_ | refine c_reg ?_ | refine c_rnil ?_ | refine c_true ?_ | refine c_op (by first | exact t_call (h := sizes_f) | exact t_move | exact t_assign | exact t_neqT | exact t_load | exact t_boxP | fail) ?_ | fail))
    refine c_ret1 Tryd.func33 rfl ?_
    exact fun h => h
  obtain ⟨s1, s2, s3⟩ := size_ok hs
  rw [show chkT t = chkA t.notes.length (fun next => chkB (lastK t.notes.length next) t.notes) t.paras 1 by unfold chkT; rw [if_neg (fun h => h hs)]] at hr
  (repeat (first | refine c_seq ?_ | refine c_reg ?_ | refine c_rnil ?_ | refine c_block ?_ | refine c_skip ?_ | refine c_false ?_ | refine c_op (by first | exact t_call (h := sizes_f) | exact t_move | exact t_assign | exact t_neqF | exact t_load | exact t_boxP | fail) ?_ | fail))
  refine c_loop (fun x : Nat × Int => [(1, .pu (pPtr eText t)), (4, .pu (pI x.2)), (5, .pu (pI x.1))])
    (fun x => x.1 ≤ t.paras.length ∧ r = chkA t.notes.length (fun next => chkB (lastK t.notes.length next) t.notes) (t.paras.drop x.1) x.2 ∧ 1 ≤ x.2 ∧ x.2 ≤ t.notes.length + 1) (fun x => t.paras.length - x.1) (0, 1) ⟨by simp, hr, by simp, by simp; omega⟩ (by repeat (first | exact trivial | refine ⟨has_rfl rfl, ?_⟩ | fail)) ?_
  rintro ⟨i, next⟩ ⟨hi, hri, hn1, hn2⟩ ih
  dsimp only at hi hri hn1 hn2 ih ⊢
  by_cases hlt : i < t.paras.length
  · rw [chkA_drop hlt] at hri
    have hpl := s3 t.paras[i] (List.mem_append_left _ (List.getElem_mem _))
    (repeat (first | refine c_seq ?_ | refine c_reg ?_ | refine c_rnil ?_ | refine c_block ?_ | refine c_skip ?_ | refine c_true ?_ | refine c_op (by first | exact t_move | exact t_assign | exact t_lssT | exact t_len | exact t_load | exact t_fa | fail) ?_ | fail))
    refine c_loop (fun x : Nat × Int => [(1, .pu (pPtr eText t)), (4, .pu (pI x.2)), (5, .pu (pI i)), (6, .pu (pI x.1))])
      (fun x => x.1 ≤ t.paras[i].length ∧ r = chkP t.notes.length (chkA t.notes.length (fun next => chkB (lastK t.notes.length next) t.notes) (t.paras.drop (i + 1))) (t.paras[i].drop x.1) x.2 ∧ 1 ≤ x.2 ∧ x.2 ≤ t.notes.length + 1) (fun x => t.paras[i].length - x.1) (0, next) ⟨by simp, hri, hn1, hn2⟩ (by repeat (first | exact trivial | refine ⟨has_rfl rfl, ?_⟩ | fail)) ?_
    rintro ⟨k, nx⟩ ⟨hk, hrk, hk1, hk2⟩ ih2
    dsimp only at hk hrk hk1 hk2 ih2 ⊢
    by_cases hlk : k < t.paras[i].length
    · rw [chkP_drop hlk] at hrk
      by_cases he : wErr t.paras[i][k] nx t.notes.length = 0
      · rw [if_neg (fun h => h he)] at hrk
        by_cases hno : t.paras[i][k].note = 0
        · rw [if_neg (fun h => h hno)] at hrk
          (repeat (first | refine c_seq ?_ | refine c_reg ?_ | refine c_rnil ?_ | refine c_block ?_ | refine c_skip ?_ | refine c_true ?_ | refine c_op (by first | exact t_move | exact t_lssT | exact t_len | exact t_idxN | exact t_load | exact t_fa | fail) ?_ | fail))
          refine c_draw0 mixed (by kernel_rfl) ?_
          (repeat (first | refine d_op (by first | exact t_call (h := word_f) | exact t_move | exact t_assign | exact t_len | exact t_idxN | exact t_load | exact t_fa | fail) ?_ | fail))
          refine d_nil (q_nil ?_ (by kernel_rfl))
          (repeat (first | refine c_seq ?_ | refine c_reg ?_ | refine c_rnil ?_ | refine c_inBlock ?_ | refine c_skip ?_ | refine c_false ?_ | refine c_op (by first | exact t_move | exact t_assign | exact t_add | exact t_neqF | exact t_idxN | exact t_load | exact t_fa | fail) ?_ | fail))
          exact (ih2 (k + 1, nx) ⟨by dsimp only; omega, hrk, hk1, hk2⟩ (by dsimp only; omega)).sub (by repeat (first | exact trivial | refine ⟨has_rfl rfl, ?_⟩ | fail))
        · rw [if_pos hno] at hrk
          have := wErr_note he hno
          (repeat (first | refine c_seq ?_ | refine c_reg ?_ | refine c_rnil ?_ | refine c_block ?_ | refine c_skip ?_ | refine c_true ?_ | refine c_op (by first | exact t_move | exact t_lssT | exact t_len | exact t_idxN | exact t_load | exact t_fa | fail) ?_ | fail))
          refine c_draw0 mixed (by kernel_rfl) ?_
          (repeat (first | refine d_op (by first | exact t_call (h := word_f) | exact t_move | exact t_assign | exact t_len | exact t_idxN | exact t_load | exact t_fa | fail) ?_ | fail))
          refine d_nil (q_nil ?_ (by kernel_rfl))
          (repeat (first | refine c_seq ?_ | refine c_reg ?_ | refine c_rnil ?_ | refine c_inBlock ?_ | refine c_skip ?_ | refine c_true ?_ | refine c_false ?_ | refine c_op (by first | exact t_move | exact t_assign | exact t_add | exact t_neqT | exact t_neqF | exact t_idxN | exact t_load | exact t_fa | fail) ?_ | fail))
          exact (ih2 (k + 1, nx + 1) ⟨by dsimp only; omega, hrk, by dsimp only; omega, by dsimp only; omega⟩ (by dsimp only; omega)).sub (by repeat (first | exact trivial | refine ⟨has_rfl rfl, ?_⟩ | fail))
      · rw [if_pos he] at hrk
        rw [hrk]
        (repeat (first | refine c_seq ?_ | refine c_reg ?_ | refine c_rnil ?_ | refine c_block ?_ | refine c_skip ?_ | refine c_true ?_ | refine c_op (by first | exact t_move | exact t_lssT | exact t_len | exact t_idxN | exact t_load | exact t_fa | fail) ?_ | fail))
        refine c_draw0 mixed (by kernel_rfl) ?_
        (repeat (first | refine d_op (by first | exact t_call (h := word_f) | exact t_move | exact t_assign | exact t_len | exact t_idxN | exact t_load | exact t_fa | fail) ?_ | fail))
        refine d_nil (q_nil ?_ (by kernel_rfl))
        (repeat (first | refine c_seq ?_ | refine c_reg ?_ | refine c_rnil ?_ | refine c_true ?_ | refine c_op (by first | exact t_move | exact t_assign | exact t_neqT | fail) ?_ | fail))
        refine c_ret1 Tryd.func33 rfl ?_
        exact fun h => h
    · have hd : t.paras[i].drop k = [] := List.drop_of_length_le (by omega)
      rw [hd] at hrk
      simp only [chkP] at hrk
      (repeat (first | refine c_seq ?_ | refine c_reg ?_ | refine c_rnil ?_ | refine c_inBlock ?_ | refine c_exit ?_ | refine c_false ?_ | refine c_op (by first | exact t_move | exact t_assign | exact t_add | exact t_lssF | exact t_len | exact t_idxN | exact t_load | exact t_fa | fail) ?_ | fail))
      exact (ih (i + 1, nx) ⟨by dsimp only; omega, hrk, hk1, hk2⟩ (by dsimp only; omega)).sub (by repeat (first | exact trivial | refine ⟨has_rfl rfl, ?_⟩ | fail))
  · rw [List.drop_of_length_le (by omega)] at hri
    simp only [chkA] at hri
    (repeat (first | refine c_seq ?_ | refine c_reg ?_ | refine c_rnil ?_ | refine c_block ?_ | refine c_exit ?_ | refine c_false ?_ | refine c_op (by first | exact t_move | exact t_assign | exact t_lssF | exact t_len | exact t_load | exact t_fa | fail) ?_ | fail))
    refine c_loop (fun i : Nat => [(1, .pu (pPtr eText t)), (4, .pu (pI next)), (7, .pu (pI i))])
      (fun i => i ≤ t.notes.length ∧ r = chkB (lastK t.notes.length next) (t.notes.drop i)) (fun i => t.notes.length - i) 0 ⟨by simp, hri⟩ (by repeat (first | exact trivial | refine ⟨has_rfl rfl, ?_⟩ | fail)) fun i ⟨hi, hri⟩ ih => ?_
    by_cases hlt : i < t.notes.length
    · rw [chkB_drop hlt] at hri
      have hpl := s3 t.notes[i] (List.mem_append_right _ (List.getElem_mem _))
      (repeat (first | refine c_seq ?_ | refine c_reg ?_ | refine c_rnil ?_ | refine c_block ?_ | refine c_skip ?_ | refine c_true ?_ | refine c_op (by first | exact t_move | exact t_assign | exact t_lssT | exact t_len | exact t_load | exact t_fa | fail) ?_ | fail))
      refine c_loop (fun k : Nat => [(1, .pu (pPtr eText t)), (4, .pu (pI next)), (7, .pu (pI i)), (8, .pu (pI k))])
        (fun k => k ≤ t.notes[i].length ∧ r = chkQ (chkB (lastK t.notes.length next) (t.notes.drop (i + 1))) (t.notes[i].drop k)) (fun k => t.notes[i].length - k) 0 ⟨by simp, hri⟩ (by repeat (first | exact trivial | refine ⟨has_rfl rfl, ?_⟩ | fail)) fun k ⟨hk, hrk⟩ ih2 => ?_
      by_cases hlk : k < t.notes[i].length
      · rw [chkQ_drop hlk] at hrk
        by_cases he : wErr t.notes[i][k] 0 0 = 0
        · rw [if_neg (fun h => h he)] at hrk
          (repeat (first | refine c_seq ?_ | refine c_reg ?_ | refine c_rnil ?_ | refine c_block ?_ | refine c_inBlock ?_ | refine c_skip ?_ | refine c_true ?_ | refine c_false ?_ | refine c_op (by first | exact t_call (h := word_f) | exact t_move | exact t_assign | exact t_add | exact t_lssT | exact t_neqF | exact t_len | exact t_idxN | exact t_load | exact t_fa | fail) ?_ | fail))
          exact (ih2 (k + 1) ⟨by omega, hrk⟩ (by omega)).sub (by repeat (first | exact trivial | refine ⟨has_rfl rfl, ?_⟩ | fail))
        · rw [if_pos he] at hrk
          rw [hrk]
          (repeat (first | refine c_seq ?_ | refine c_reg ?_ | refine c_rnil ?_ | refine c_block ?_ | refine c_skip ?_ | refine c_true ?_ | refine c_op (by first | exact t_call (h := word_f) | exact t_move | exact t_assign | exact t_lssT | exact t_neqT | exact t_len | exact t_idxN | exact t_load | exact t_fa | fail) ?_ | fail))
          refine c_ret1 Tryd.func33 rfl ?_
          exact fun h => h
      · have hd : t.notes[i].drop k = [] := List.drop_of_length_le (by omega)
        rw [hd] at hrk
        simp only [chkQ] at hrk
        (repeat (first | refine c_seq ?_ | refine c_reg ?_ | refine c_rnil ?_ | refine c_inBlock ?_ | refine c_exit ?_ | refine c_false ?_ | refine c_op (by first | exact t_move | exact t_assign | exact t_add | exact t_lssF | exact t_len | exact t_idxN | exact t_load | exact t_fa | fail) ?_ | fail))
        exact (ih (i + 1) ⟨by omega, hrk⟩ (by omega)).sub (by repeat (first | exact trivial | refine ⟨has_rfl rfl, ?_⟩ | fail))
    · rw [List.drop_of_length_le (by omega)] at hri
      simp only [chkB] at hri
      rw [hri]
      unfold lastK
      by_cases hl : next = t.notes.length + 1
      · rw [if_neg (fun h => h hl)]
        (repeat (first | refine c_seq ?_ | refine c_reg ?_ | refine c_rnil ?_ | refine c_exit ?_ | refine c_skip ?_ | refine c_false ?_ | refine c_op (by first | exact t_move | exact t_assign | exact t_add | exact t_lssF | exact t_neqF | exact t_len | exact t_load | exact t_fa | fail) ?_ | fail))
        refine c_ret1 Tryd.func33 rfl ?_
        exact fun h => h
      · rw [if_pos hl]
        (repeat (first | refine c_seq ?_ | refine c_reg ?_ | refine c_rnil ?_ | refine c_exit ?_ | refine c_true ?_ | refine c_false ?_ | refine c_op (by first | exact t_move | exact t_assign | exact t_add | exact t_lssF | exact t_neqT | exact t_len | exact t_load | exact t_fa | fail) ?_ | fail))
        refine c_ret1 Tryd.func33 rfl ?_
        exact fun h => h
end Go.Proofs.YtedlipgopicijaaDoor
end

section
namespace Go.Proofs.YtedlipgopicijaaDoor
open Go Go.RowKit
def wErrB (b : Bool) (w : Wd) (next n : Int) : Int := if b = true then wErr w next n else wErr w 0 0
def chkX (b : Bool) (n : Int) (k : Int → Int) : List Wd → Int → Int
  | [], next => k next
  | w :: r, next => if wErrB b w next n ≠ 0 then wErrB b w next n else chkX b n k r (if w.note ≠ 0 then next + 1 else next)
def chkY (n : Int) (k : Int → Int) : List (List Wd) → Nat → Int → Int
  | [], _, next => k next
  | p :: r, m, next => chkX (decide (0 < m)) n (chkY n k r (m - 1)) p next
theorem chkX_true {n : Int} {k : Int → Int} : ∀ (l : List Wd) (next : Int), chkX true n k l next = chkP n k l next
  | [], next => rfl
  | w :: r, next => by simp only [chkX, chkP, wErrB, if_true, chkX_true r]
theorem wErr_zero {w : Wd} (h : wErr w 0 0 = 0) : w.note = 0 := by
  by_cases h0 : w.note = 0
  · exact h0
  · exact absurd (wErr_note h h0).1 h0
theorem chkX_false {n : Int} {k : Int → Int} : ∀ (l : List Wd) (next : Int), chkX false n k l next = chkQ (k next) l
  | [], next => rfl
  | w :: r, next => by
    simp only [chkX, chkQ, wErrB, Bool.false_eq_true, if_false]
    by_cases h : wErr w 0 0 = 0
    · simp only [h, wErr_zero h, ne_eq, not_true_eq_false, if_false]
      exact chkX_false r next
    · rw [if_pos h, if_pos h]
theorem chkY_zero {n : Int} {k : Int → Int} : ∀ (l : List (List Wd)) (next : Int), chkY n k l 0 next = chkB (k next) l
  | [], next => rfl
  | p :: r, next => by
    simp only [chkY, chkB, Nat.lt_irrefl, decide_false, chkX_false, Nat.zero_sub]
    rw [chkY_zero r next]
theorem chkX_congr {n : Int} {b : Bool} {k k' : Int → Int} (h : ∀ x, k x = k' x) : ∀ (l : List Wd) (next : Int), chkX b n k l next = chkX b n k' l next
  | [], next => h next
  | w :: r, next => by simp only [chkX, chkX_congr h r]
theorem chkY_paras {n : Int} {k : Int → Int} {ns : List (List Wd)} : ∀ (ps : List (List Wd)) (next : Int), chkY n k (ps ++ ns) ps.length next = chkA n (fun nx => chkB (k nx) ns) ps next
  | [], next => chkY_zero ns next
  | p :: r, next => by
    have e : decide (0 < (p :: r).length) = true := by simp
    simp only [List.cons_append, chkY, chkA]
    rw [e, ← chkX_true]
    refine chkX_congr (fun x => ?_) p next
    rw [List.length_cons, Nat.add_sub_cancel]
    exact chkY_paras r x
theorem chkT_eq {t : Tx} (hs : sizeM t = 0) : chkT t = chkY t.notes.length (lastK t.notes.length) (t.paras ++ t.notes) t.paras.length 1 := by
  rw [chkY_paras]
  unfold chkT
  rw [if_neg (fun h => h hs)]
theorem wErrB_7 {b : Bool} {w : Wd} {next n : Int} (h : ¬ 0 < widM w.s ∨ (w.key ≠ emp ∧ ¬ 0 < widM w.key)) : wErrB b w next n = 7 := by
  unfold wErrB wErr; simp only [if_pos h, ite_self]
theorem wErrB_5 {b : Bool} {w : Wd} {next n : Int} (h : ¬ (¬ 0 < widM w.s ∨ (w.key ≠ emp ∧ ¬ 0 < widM w.key))) (h2 : w.table ≠ 0 ∧ w.table ≠ 1) : wErrB b w next n = 5 := by
  unfold wErrB wErr; simp only [if_neg h, if_pos h2, ite_self]
theorem wErrB_0 {b : Bool} {w : Wd} {next n : Int} (h : ¬ (¬ 0 < widM w.s ∨ (w.key ≠ emp ∧ ¬ 0 < widM w.key))) (h2 : ¬ (w.table ≠ 0 ∧ w.table ≠ 1)) (h3 : w.note = 0) : wErrB b w next n = 0 := by
  unfold wErrB wErr; simp only [if_neg h, if_neg h2, h3, ne_eq, not_true_eq_false, false_and, if_false, ite_self]
theorem wErrB_n {b : Bool} {w : Wd} {next n : Int} (h : ¬ (¬ 0 < widM w.s ∨ (w.key ≠ emp ∧ ¬ 0 < widM w.key))) (h2 : ¬ (w.table ≠ 0 ∧ w.table ≠ 1)) (h3 : w.note ≠ 0) :
    wErrB b w next n = if b = false ∨ w.note ≠ next ∨ n < next then 5 else 0 := by
  have e1 : ∀ nx m : Int, wErr w nx m = if w.note ≠ 0 ∧ (w.note ≠ nx ∨ m < w.note) then 5 else 0 := fun nx m => by unfold wErr; rw [if_neg h, if_neg h2]
  unfold wErrB
  cases b
  · rw [if_neg (by decide), if_pos (.inl rfl), e1, if_pos ⟨h3, .inl h3⟩]
  · rw [if_pos rfl, e1]
    by_cases h4 : w.note = next
    · by_cases h5 : n < next
      · rw [if_pos ⟨h3, .inr (by omega)⟩, if_pos (.inr (.inr h5))]
      · rw [if_neg (fun q => q.2.elim (fun q => q h4) (fun q => h5 (by omega))), if_neg (by
          rintro (q | q | q)
          · cases q
          · exact q h4
          · exact h5 q)]
    · rw [if_pos ⟨h3, .inl h4⟩, if_pos (.inr (.inl h4))]
theorem wErrB_n5 {b : Bool} {w : Wd} {next n : Int} (h : ¬ (¬ 0 < widM w.s ∨ (w.key ≠ emp ∧ ¬ 0 < widM w.key))) (h2 : ¬ (w.table ≠ 0 ∧ w.table ≠ 1)) (h3 : w.note ≠ 0) (hc : b = false ∨ w.note ≠ next ∨ n < next) : wErrB b w next n = 5 := by
  rw [wErrB_n h h2 h3, if_pos hc]
theorem wErrB_n0 {b : Bool} {w : Wd} {next n : Int} (h : ¬ (¬ 0 < widM w.s ∨ (w.key ≠ emp ∧ ¬ 0 < widM w.key))) (h2 : ¬ (w.table ≠ 0 ∧ w.table ≠ 1)) (h3 : w.note ≠ 0) (hc : ¬ (b = false ∨ w.note ≠ next ∨ n < next)) : wErrB b w next n = 0 := by
  rw [wErrB_n h h2 h3, if_neg hc]
theorem concat2_f {a b : List (List Wd)} (h : (a.length + b.length) * 24 ≤ 140737488351232) : Fn Tryd.prog 39 [pSl (eSl (eSl eWord)) [a, b]] (pSl (eSl eWord) (a ++ b)) := by
  have := concatW_f (ls := [a, b]) (by simpa using h)
  simpa using this
theorem contains_y {f : FuncId} {q : List Wd → Bool} (hq : ∀ p, Fn Tryd.prog f [pSl eWord p] (pB (q p))) {l : List (List Wd)} {b : Bool} (h : l.any q = b) : Fn Tryd.prog 53 [pSl (eSl eWord) l, pv (.func (.func f) #[] #[])] (pB b) := h ▸ containsQ_f hq
theorem valid25_y {s : ByteArray} (h : 0 < widM s) : Fn Tryd.prog 56 [pS s] (pB true) := by
  have := valid25_f (s := s); rwa [decide_eq_true h] at this
theorem valid25_n {s : ByteArray} (h : ¬ 0 < widM s) : Fn Tryd.prog 56 [pS s] (pB false) := by
  have := valid25_f (s := s); rwa [decide_eq_false h] at this
set_option maxHeartbeats 8000000 in
theorem check25_f {t : Tx} (h48 : (t.paras.length + t.notes.length) * 24 ≤ 140737488351232) : Fn Tryd.prog 31 [pV eText t] (pI (chkT t)) := by
  refine fn_of ent31 Tryd.func31 rfl Tryd.ntmps31 rfl fun M0 w0 => ?_
  obtain ⟨r, hr⟩ : ∃ r, r = chkT t := ⟨_, rfl⟩
  rw [← hr]
  have top : ∀ c, sizeM t = c → c ≠ 0 → r = c := fun c h h0 => by rw [hr]; unfold chkT; rw [if_pos (by rw [h]; exact h0), h]
  by_cases h1 : 100 < t.paras.length
  · rw [top 2 (by unfold sizeM; rw [if_pos (.inl h1)]) (by decide)]
    (repeat (first | refine c_seq ?_ | refine c_reg ?_ | refine c_rnil ?_ | refine c_true ?_ | refine c_no ?_ | refine c_op (by first | exact t_call (h := (concat2_f h48)) | exact t_move | exact t_assign | exact t_pickT | exact t_gtrT | exact t_len | exact t_load | exact t_fa | exact t_bs | exact t_boxP | fail) ?_ | fail))
    refine c_ret1 Tryd.func31 rfl ?_
    exact fun h => h
  by_cases h2 : 100 < t.notes.length
  · rw [top 2 (by unfold sizeM; rw [if_pos (.inr h2)]) (by decide)]
    (repeat (first | refine c_seq ?_ | refine c_reg ?_ | refine c_rnil ?_ | refine c_true ?_ | refine c_yes ?_ | refine c_no ?_ | refine c_op (by first | exact t_call (h := (concat2_f h48)) | exact t_move | exact t_assign | exact t_pickT | exact t_pickF | exact t_gtrT | exact t_gtrF | exact t_len | exact t_load | exact t_fa | exact t_bs | exact t_boxP | fail) ?_ | fail))
    refine c_ret1 Tryd.func31 rfl ?_
    exact fun h => h
  have h12 : ¬ (100 < t.paras.length ∨ 100 < t.notes.length) := fun h => h.elim h1 h2
  by_cases h3 : longP (t.paras ++ t.notes) = true
  · rw [top 2 (by unfold sizeM; rw [if_neg h12, if_pos h3]) (by decide)]
    (repeat (first | refine c_seq ?_ | refine c_reg ?_ | refine c_rnil ?_ | refine c_true ?_ | refine c_yes ?_ | refine c_op (by first | exact t_call (h := (concat2_f h48)) | exact t_call (h := (contains_y (fun p => long_f) h3)) | exact t_move | exact t_assign | exact t_pickF | exact t_gtrF | exact t_len | exact t_load | exact t_fa | exact t_bs | exact t_boxP | fail) ?_ | fail))
    refine c_ret1 Tryd.func31 rfl ?_
    exact fun h => h
  have h3' : longP (t.paras ++ t.notes) = false := by simpa using h3
  by_cases h4 : noneP (t.paras ++ t.notes) = true
  · rw [top 1 (by unfold sizeM; rw [if_neg h12, if_neg h3, if_pos h4]) (by decide)]
    (repeat (first | refine c_seq ?_ | refine c_reg ?_ | refine c_rnil ?_ | refine c_skip ?_ | refine c_true ?_ | refine c_false ?_ | refine c_yes ?_ | refine c_op (by first | exact t_call (h := (concat2_f h48)) | exact t_call (h := (contains_y (fun p => long_f) h3')) | exact t_call (h := (contains_y (fun p => none_f) h4)) | exact t_move | exact t_assign | exact t_pickF | exact t_gtrF | exact t_len | exact t_load | exact t_fa | exact t_bs | exact t_boxP | fail) ?_ | fail))
    refine c_ret1 Tryd.func31 rfl ?_
    exact fun h => h
  have h4' : noneP (t.paras ++ t.notes) = false := by simpa using h4
  have hs : sizeM t = 0 := by unfold sizeM; rw [if_neg h12, if_neg h3, if_neg h4]
  obtain ⟨s1, s2, s3⟩ := size_ok hs
  rw [chkT_eq hs] at hr
  have hall : (t.paras ++ t.notes).length = t.paras.length + t.notes.length := List.length_append
  (repeat (first | refine c_seq ?_ | refine c_reg ?_ | refine c_rnil ?_ | refine c_block ?_ | refine c_skip ?_ | refine c_false ?_ | refine c_yes ?_ | refine c_op (by first | exact t_call (h := (concat2_f h48)) | exact t_call (h := (contains_y (fun p => long_f) h3')) | exact t_call (h := (contains_y (fun p => none_f) h4')) | exact t_move | exact t_assign | exact t_pickF | exact t_gtrF | exact t_len | exact t_load | exact t_fa | exact t_bs | exact t_boxP | fail) ?_ | fail))
  refine c_loop (fun x : Nat × Int => [(1, .pu (pPtr eText t)), (4, .pu (pI x.2)), (31, .pu (pSl (eSl eWord) (t.paras ++ t.notes))), (32, .pu (pI (t.paras ++ t.notes).length)), (33, .pu (pI x.1))])
    (fun x => x.1 ≤ (t.paras ++ t.notes).length ∧ r = chkY t.notes.length (lastK t.notes.length) ((t.paras ++ t.notes).drop x.1) (t.paras.length - x.1) (x.2 + 1) ∧ 0 ≤ x.2 ∧ x.2 ≤ t.notes.length) (fun x => (t.paras ++ t.notes).length - x.1) (0, 0) ⟨by simp, hr, by simp, by simp⟩ (by repeat (first | exact trivial | refine ⟨has_rfl rfl, ?_⟩ | fail)) ?_
  rintro ⟨i, c⟩ ⟨hi, hri, hn1, hn2⟩ ih
  dsimp only at hi hri hn1 hn2 ih ⊢
  by_cases hlt : i < (t.paras ++ t.notes).length
  · rw [List.drop_eq_getElem_cons hlt] at hri
    simp only [chkY] at hri
    have hpl := s3 _ (List.getElem_mem hlt)
    (repeat (first | refine c_seq ?_ | refine c_reg ?_ | refine c_rnil ?_ | refine c_block ?_ | refine c_skip ?_ | refine c_true ?_ | refine c_op (by first | exact t_move | exact t_assign | exact t_lssT | exact t_len | exact t_idxN | exact t_load | fail) ?_ | fail))
    refine c_loop (fun x : Nat × Int => [(1, .pu (pPtr eText t)), (4, .pu (pI x.2)), (5, .pu (pI i)), (31, .pu (pSl (eSl eWord) (t.paras ++ t.notes))), (32, .pu (pI (t.paras ++ t.notes).length)), (33, .pu (pI i)), (38, .pu (pSl eWord (t.paras ++ t.notes)[i])), (39, .pu (pI (t.paras ++ t.notes)[i].length)), (40, .pu (pI x.1))])
      (fun x => x.1 ≤ (t.paras ++ t.notes)[i].length ∧ r = chkX (decide (0 < t.paras.length - i)) t.notes.length (chkY t.notes.length (lastK t.notes.length) ((t.paras ++ t.notes).drop (i + 1)) (t.paras.length - i - 1)) ((t.paras ++ t.notes)[i].drop x.1) (x.2 + 1) ∧ 0 ≤ x.2 ∧ x.2 ≤ t.notes.length) (fun x => (t.paras ++ t.notes)[i].length - x.1) (0, c) ⟨by simp, hri, hn1, hn2⟩ (by repeat (first | exact trivial | refine ⟨has_rfl rfl, ?_⟩ | fail)) ?_
    rintro ⟨k, c⟩ ⟨hk, hrk, hk1, hk2⟩ ih2
    dsimp only at hk hrk hk1 hk2 ih2 ⊢
    by_cases hlk : k < (t.paras ++ t.notes)[i].length
    · rw [List.drop_eq_getElem_cons hlk] at hrk
      simp only [chkX] at hrk
      obtain ⟨w, hw⟩ : ∃ w, w = (t.paras ++ t.notes)[i][k] := ⟨_, rfl⟩
      rw [← hw] at hrk
      by_cases hb1 : ¬ 0 < widM w.s ∨ (w.key ≠ emp ∧ ¬ 0 < widM w.key)
      · rw [wErrB_7 hb1, if_pos (by decide)] at hrk
        rw [hrk]
        by_cases q1 : 0 < widM w.s
        · obtain ⟨q2, q3⟩ := hb1.resolve_left (fun h => h q1)
          subst hw
          (repeat (first | refine c_seq ?_ | refine c_reg ?_ | refine c_rnil ?_ | refine c_block ?_ | refine c_skip ?_ | refine c_true ?_ | refine c_yes ?_ | refine c_op (by first | exact t_call (h := (valid25_y q1)) | exact t_call (h := (valid25_n q3)) | exact ((t_neqStr).yes (by exact q2)) | exact t_move | exact t_assign | exact t_pickT | exact t_pickF | exact t_not | exact t_lssT | exact t_idxN | exact t_load | exact t_fa | exact t_allocV | fail) ?_ | refine c_stV ?_ | fail))
          refine c_ret1 Tryd.func31 rfl ?_
          exact fun h => h
        · subst hw
          (repeat (first | refine c_seq ?_ | refine c_reg ?_ | refine c_rnil ?_ | refine c_block ?_ | refine c_skip ?_ | refine c_true ?_ | refine c_no ?_ | refine c_noU ?_ | refine c_op (by first | exact t_call (h := (valid25_n q1)) | exact t_move | exact t_assign | exact t_pickT | exact t_not | exact t_lssT | exact t_idxN | exact t_load | exact t_fa | exact t_allocV | fail) ?_ | refine c_stV ?_ | fail))
          refine c_ret1 Tryd.func31 rfl ?_
          exact fun h => h
      · have q1 : 0 < widM w.s := Classical.byContradiction fun h => hb1 (.inl h)
        apply c_join [(1, .pu (pPtr eText t)), (4, .pu (pI c)), (5, .pu (pI i)), (31, .pu (pSl (eSl eWord) (t.paras ++ t.notes))), (32, .pu (pI (t.paras ++ t.notes).length)), (33, .pu (pI i)), (38, .pu (pSl eWord (t.paras ++ t.notes)[i])), (39, .pu (pI (t.paras ++ t.notes)[i].length)), (40, .pu (pI k)), (8, .pu (pPtr eWord w))]
        · intro meet
          by_cases q2 : w.key = emp
          · subst hw
            (repeat (first | refine c_seq ?_ | fail))
            refine c_reg ?_
            (repeat (first | refine c_seq ?_ | refine c_rnil ?_ | refine c_block ?_ | refine c_skip ?_ | refine c_true ?_ | refine c_op (by first | exact t_lssT | fail) ?_ | fail))
            (repeat (first | refine c_seq ?_ | fail))
            refine c_reg ?_
            (repeat (first | refine c_seq ?_ | refine c_rnil ?_ | refine c_op (by first | exact t_idxN | exact t_load | exact t_allocV | fail) ?_ | refine c_stV ?_ | fail))
            (repeat (first | refine c_seq ?_ | fail))
            refine c_reg ?_
            (repeat (first | refine c_seq ?_ | refine c_rnil ?_ | refine c_skip ?_ | refine c_false ?_ | refine c_yes ?_ | refine c_no ?_ | refine c_op (by first | exact t_call (h := (valid25_y q1)) | exact ((t_neqStr).no (by exact fun h => h q2)) | exact t_move | exact t_pickF | exact t_not | exact t_load | exact t_fa | fail) ?_ | fail))
            exact meet (by repeat (first | exact trivial | refine ⟨has_rfl rfl, ?_⟩ | fail))
          · have q3 : 0 < widM w.key := Classical.byContradiction fun h => hb1 (.inr ⟨q2, h⟩)
            subst hw
            (repeat (first | refine c_seq ?_ | fail))
            refine c_reg ?_
            (repeat (first | refine c_seq ?_ | refine c_rnil ?_ | refine c_block ?_ | refine c_skip ?_ | refine c_true ?_ | refine c_op (by first | exact t_lssT | fail) ?_ | fail))
            (repeat (first | refine c_seq ?_ | fail))
            refine c_reg ?_
            (repeat (first | refine c_seq ?_ | refine c_rnil ?_ | refine c_op (by first | exact t_idxN | exact t_load | exact t_allocV | fail) ?_ | refine c_stV ?_ | fail))
            (repeat (first | refine c_seq ?_ | fail))
            refine c_reg ?_
            (repeat (first | refine c_seq ?_ | refine c_rnil ?_ | refine c_skip ?_ | refine c_false ?_ | refine c_yes ?_ | refine c_op (by first | exact t_call (h := (valid25_y q1)) | exact t_call (h := (valid25_y q3)) | exact ((t_neqStr).yes (by exact q2)) | exact t_move | exact t_pickT | exact t_pickF | exact t_not | exact t_load | exact t_fa | fail) ?_ | fail))
            exact meet (by repeat (first | exact trivial | refine ⟨has_rfl rfl, ?_⟩ | fail))
        by_cases hb2 : w.table ≠ 0 ∧ w.table ≠ 1
        · rw [wErrB_5 hb1 hb2, if_pos (by decide)] at hrk
          rw [hrk]
          obtain ⟨q2, q3⟩ := hb2
          (repeat (first | refine c_seq ?_ | refine c_reg ?_ | refine c_rnil ?_ | refine c_true ?_ | refine c_yes ?_ | refine c_op (by first | exact t_move | exact t_assign | exact t_pickT | exact t_neqT | exact t_load | exact t_fa | fail) ?_ | fail))
          refine c_ret1 Tryd.func31 rfl ?_
          exact fun h => h
        apply c_join [(1, .pu (pPtr eText t)), (4, .pu (pI c)), (5, .pu (pI i)), (31, .pu (pSl (eSl eWord) (t.paras ++ t.notes))), (32, .pu (pI (t.paras ++ t.notes).length)), (33, .pu (pI i)), (38, .pu (pSl eWord (t.paras ++ t.notes)[i])), (39, .pu (pI (t.paras ++ t.notes)[i].length)), (40, .pu (pI k)), (8, .pu (pPtr eWord w))]
        · intro meet
          by_cases q2 : w.table = 0
          · (repeat (first | refine c_seq ?_ | fail))
            refine c_reg ?_
            (repeat (first | refine c_seq ?_ | refine c_rnil ?_ | refine c_skip ?_ | refine c_false ?_ | refine c_no ?_ | refine c_op (by first | exact t_move | exact t_pickF | exact t_neqF | exact t_load | exact t_fa | fail) ?_ | fail))
            exact meet (by repeat (first | exact trivial | refine ⟨has_rfl rfl, ?_⟩ | fail))
          · have q3 : w.table = 1 := Classical.byContradiction fun h => hb2 ⟨q2, h⟩
            (repeat (first | refine c_seq ?_ | fail))
            refine c_reg ?_
            (repeat (first | refine c_seq ?_ | refine c_rnil ?_ | refine c_skip ?_ | refine c_false ?_ | refine c_yes ?_ | refine c_op (by first | exact t_move | exact t_pickT | exact t_neqT | exact t_neqF | exact t_load | exact t_fa | fail) ?_ | fail))
            exact meet (by repeat (first | exact trivial | refine ⟨has_rfl rfl, ?_⟩ | fail))
        by_cases q4 : w.note = 0
        · rw [wErrB_0 hb1 hb2 q4, if_neg (by decide), if_neg (fun h => h q4)] at hrk
          (repeat (first | refine c_reg ?_ | refine c_rnil ?_ | refine c_inBlock ?_ | refine c_skip ?_ | refine c_false ?_ | refine c_op (by first | exact t_move | exact t_add | exact t_neqF | exact t_load | exact t_fa | fail) ?_ | fail))
          exact (ih2 (k + 1, c) ⟨by dsimp only; omega, hrk, hk1, hk2⟩ (by dsimp only; omega)).sub (by repeat (first | exact trivial | refine ⟨has_rfl rfl, ?_⟩ | fail))
        · by_cases q5 : t.paras.length ≤ i
          · rw [wErrB_n5 hb1 hb2 q4 (.inl (by simp; omega)), if_pos (by decide)] at hrk
            rw [hrk]
            (repeat (first | refine c_seq ?_ | refine c_reg ?_ | refine c_rnil ?_ | refine c_true ?_ | refine c_no ?_ | refine c_op (by first | exact t_move | exact t_assign | exact t_pickT | exact t_add | exact t_geqT | exact t_neqT | exact t_len | exact t_load | exact t_fa | fail) ?_ | fail))
            refine c_ret1 Tryd.func31 rfl ?_
            exact fun h => h
          by_cases q6 : w.note = c + 1
          · by_cases q7 : t.notes.length < c + 1
            · rw [wErrB_n5 hb1 hb2 q4 (.inr (.inr q7)), if_pos (by decide)] at hrk
              rw [hrk]
              (repeat (first | refine c_seq ?_ | refine c_reg ?_ | refine c_rnil ?_ | refine c_true ?_ | refine c_yes ?_ | refine c_op (by first | exact t_move | exact t_assign | exact t_pickF | exact t_add | exact t_gtrT | exact t_geqF | exact t_neqT | exact t_neqF | exact t_len | exact t_load | exact t_fa | fail) ?_ | fail))
              refine c_ret1 Tryd.func31 rfl ?_
              exact fun h => h
            · rw [wErrB_n0 hb1 hb2 q4 (by
                rintro (h | h | h)
                · simp at h; omega
                · exact h q6
                · exact q7 h), if_neg (fun h => h rfl), if_pos q4] at hrk
              (repeat (first | refine c_seq ?_ | refine c_reg ?_ | refine c_rnil ?_ | refine c_inBlock ?_ | refine c_skip ?_ | refine c_true ?_ | refine c_false ?_ | refine c_yes ?_ | refine c_op (by first | exact t_move | exact t_assign | exact t_pickF | exact t_add | exact t_gtrF | exact t_geqF | exact t_neqT | exact t_neqF | exact t_len | exact t_load | exact t_fa | fail) ?_ | fail))
              exact (ih2 (k + 1, c + 1) ⟨by dsimp only; omega, hrk, by dsimp only; omega, by dsimp only; omega⟩ (by dsimp only; omega)).sub (by repeat (first | exact trivial | refine ⟨has_rfl rfl, ?_⟩ | fail))
          · rw [wErrB_n5 hb1 hb2 q4 (.inr (.inl q6)), if_pos (by decide)] at hrk
            rw [hrk]
            (repeat (first | refine c_seq ?_ | refine c_reg ?_ | refine c_rnil ?_ | refine c_true ?_ | refine c_yes ?_ | refine c_no ?_ | refine c_op (by first | exact t_move | exact t_assign | exact t_pickT | exact t_pickF | exact t_add | exact t_geqF | exact t_neqT | exact t_len | exact t_load | exact t_fa | fail) ?_ | fail))
            refine c_ret1 Tryd.func31 rfl ?_
            exact fun h => h
    · have hd : (t.paras ++ t.notes)[i].drop k = [] := List.drop_of_length_le (by omega)
      rw [hd] at hrk
      simp only [chkX] at hrk
      (repeat (first | refine c_seq ?_ | refine c_reg ?_ | refine c_rnil ?_ | refine c_inBlock ?_ | refine c_exit ?_ | refine c_false ?_ | refine c_op (by first | exact t_move | exact t_add | exact t_lssF | fail) ?_ | fail))
      exact (ih (i + 1, c) ⟨by dsimp only; omega, hrk, hk1, hk2⟩ (by dsimp only; omega)).sub (by repeat (first | exact trivial | refine ⟨has_rfl rfl, ?_⟩ | fail))
  · have hd : (t.paras ++ t.notes).drop i = [] := List.drop_of_length_le (by omega)
    rw [hd] at hri
    simp only [chkY] at hri
    rw [hri]
    unfold lastK
    by_cases hl : c = t.notes.length
    · rw [if_neg (fun h => h (by omega))]
      (repeat (first | refine c_seq ?_ | refine c_reg ?_ | refine c_rnil ?_ | refine c_exit ?_ | refine c_skip ?_ | refine c_false ?_ | refine c_op (by first | exact t_move | exact t_assign | exact t_lssF | exact t_neqF | exact t_len | exact t_load | exact t_fa | fail) ?_ | fail))
      refine c_ret1 Tryd.func31 rfl ?_
      exact fun h => h
    · rw [if_pos (by omega)]
      (repeat (first | refine c_seq ?_ | refine c_reg ?_ | refine c_rnil ?_ | refine c_exit ?_ | refine c_true ?_ | refine c_false ?_ | refine c_op (by first | exact t_move | exact t_assign | exact t_lssF | exact t_neqT | exact t_len | exact t_load | exact t_fa | fail) ?_ | fail))
      refine c_ret1 Tryd.func31 rfl ?_
      exact fun h => h
end Go.Proofs.YtedlipgopicijaaDoor
end

section
namespace Go.Proofs.YtedlipgopicijaaDoor
open Go Go.RowKit
theorem sameInts_f {a b : List Int} : Fn Tryd.prog 35 [pSl eI a, pSl eI b] (pB (decide (a = b))) := by
  refine fn_of ent35 Tryd.func35 rfl Tryd.ntmps35 rfl fun M0 w0 => ?_
  refine c_have 0 (fun h => i_len26 h) fun hl => ?_
  by_cases hlen : a.length = b.length
  · (repeat (first | refine c_seq ?_ | refine c_reg ?_ | refine c_rnil ?_ | refine c_block ?_ | refine c_skip ?_ | refine c_false ?_ | refine c_op (by first | exact t_move | exact t_assign | exact t_neqF | exact t_len | fail) ?_ | fail))
    refine c_loop (fun i : Nat => [(0, .pu (pSl eI a)), (1, .pu (pSl eI b)), (5, .pu (pI i))]) (fun i => i ≤ a.length ∧ ∀ j (h1 : j < a.length) (h2 : j < b.length), j < i → a[j] = b[j]) (fun i => a.length - i) 0 ⟨by omega, fun _ _ _ h => by omega⟩ (by repeat (first | exact trivial | refine ⟨has_rfl rfl, ?_⟩ | fail)) fun i ⟨hi, hpre⟩ ih => ?_
    (repeat (first | refine c_seq ?_ | refine c_reg ?_ | refine c_rnil ?_ | refine c_op (by first | exact t_move | exact t_lss | exact t_len | fail) ?_ | fail))
    refine c_if (fun hlt => ?_) fun hge => ?_
    · have h1 : i < a.length := by omega
      by_cases he : a[i] = b[i]
      · (repeat (first | refine c_seq ?_ | refine c_block ?_ | refine c_skip ?_ | fail))
        refine c_draw0 mixed (by kernel_rfl) ?_
        (repeat (first | refine d_op (by first | exact t_move | exact t_neqF | exact t_idxN | exact t_load | fail) ?_ | fail))
        refine d_nil (q_nil ?_ (by kernel_rfl))
        (repeat (first | refine c_reg ?_ | refine c_rnil ?_ | refine c_inBlock ?_ | refine c_skip ?_ | refine c_false ?_ | refine c_op (by first | exact t_move | exact t_assign | exact t_add | fail) ?_ | fail))
        refine (ih (i + 1) ⟨by omega, fun j h1 h2 hj => ?_⟩ (by omega)).sub (by repeat (first | exact trivial | refine ⟨has_rfl rfl, ?_⟩ | fail))
        rcases Nat.lt_or_ge j i with h | h
        · exact hpre j h1 h2 h
        · have : j = i := by omega
          subst this
          exact he
      · have hne : a ≠ b := fun h => he (by subst h; rfl)
        rw [decide_eq_false hne]
        (repeat (first | refine c_seq ?_ | refine c_block ?_ | refine c_skip ?_ | fail))
        refine c_draw0 mixed (by kernel_rfl) ?_
        (repeat (first | refine d_op (by first | exact t_move | exact t_neqT | exact t_idxN | exact t_load | fail) ?_ | fail))
        refine d_nil (q_nil ?_ (by kernel_rfl))
        (repeat (first | refine c_seq ?_ | refine c_reg ?_ | refine c_rnil ?_ | refine c_true ?_ | refine c_op (by first | exact t_assign | fail) ?_ | fail))
        refine c_ret1 Tryd.func35 rfl ?_
        exact fun h => h
    · have heq : a = b := List.ext_getElem hlen fun j h1 h2 => hpre j h1 h2 (by omega)
      rw [decide_eq_true heq]
      (repeat (first | refine c_seq ?_ | refine c_reg ?_ | refine c_rnil ?_ | refine c_exit ?_ | refine c_op (by first | exact t_assign | fail) ?_ | fail))
      refine c_ret1 Tryd.func35 rfl ?_
      exact fun h => h
  · rw [decide_eq_false (fun h => hlen (by rw [h]))]
    (repeat (first | refine c_seq ?_ | refine c_reg ?_ | refine c_rnil ?_ | refine c_true ?_ | refine c_op (by first | exact t_move | exact t_assign | exact t_neqT | exact t_len | fail) ?_ | fail))
    refine c_ret1 Tryd.func35 rfl ?_
    exact fun h => h
def badW (x : Int) : Bool := decide (x < 1) || decide (480 < x)
theorem bad_f {x : Int} : Fn Tryd.prog 86 [pI x] (pB (badW x)) := by
  refine fn_of ent86 Tryd.func86 rfl Tryd.ntmps86 rfl fun M0 w0 => ?_
  unfold badW
  by_cases h : x < 1
  · rw [decide_eq_true h, Bool.true_or]
    (repeat (first | refine c_seq ?_ | refine c_reg ?_ | refine c_rnil ?_ | refine c_no ?_ | refine c_op (by first | exact t_move | exact t_assign | exact t_pickT | exact t_lssT | fail) ?_ | fail))
    refine c_ret1 Tryd.func86 rfl ?_
    exact fun h => h
  · rw [decide_eq_false h, Bool.false_or]
    (repeat (first | refine c_seq ?_ | refine c_reg ?_ | refine c_rnil ?_ | refine c_yes ?_ | refine c_op (by first | exact t_move | exact t_assign | exact t_pickF | exact t_lssF | exact t_gtr | fail) ?_ | fail))
    refine c_ret1 Tryd.func86 rfl ?_
    exact fun h => h
def idxB : List Int → Int → Int
  | [], _ => -1
  | x :: r, i => if badW x then i else idxB r (i + 1)
theorem idxB_any : ∀ (l : List Int) (i : Int), 0 ≤ i → (0 ≤ idxB l i ↔ l.any badW = true)
  | [], i, _ => by simp [idxB]
  | x :: r, i, h => by
    simp only [idxB, List.any_cons, Bool.or_eq_true]
    split
    · rename_i hp; simp [hp, h]
    · rename_i hp; rw [idxB_any r (i + 1) (by omega)]; simp [hp]
theorem index_f {l : List Int} : Fn Tryd.prog 95 [pSl eI l, pv (.func (.func 86) #[] #[])] (pI (idxB l 0)) := by
  refine fn_of ent95 Tryd.func95 rfl Tryd.ntmps95 rfl fun M0 w0 => ?_
  refine c_have 0 (fun h => i_len26 h) fun hl => ?_
  (repeat (first | refine c_seq ?_ | refine c_reg ?_ | refine c_rnil ?_ | refine c_block ?_ | refine c_op (by first | exact t_move | exact t_assign | exact t_len | fail) ?_ | fail))
  refine c_loop (fun i : Nat => [(0, .pu (pSl eI l)), (1, .pu (pv (.func (.func 86) #[] #[]))), (7, .pu (pI l.length)), (8, .pu (pI i))]) (fun i => i ≤ l.length ∧ idxB l 0 = idxB (l.drop i) i) (fun i => l.length - i) 0 ⟨by omega, rfl⟩ (by repeat (first | exact trivial | refine ⟨has_rfl rfl, ?_⟩ | fail)) fun i ⟨hi, hx⟩ ih => ?_
  (repeat (first | refine c_seq ?_ | refine c_reg ?_ | refine c_rnil ?_ | refine c_op (by first | exact t_lss | fail) ?_ | fail))
  refine c_if (fun hlt => ?_) fun hge => ?_
  · have h1 : i < l.length := by omega
    rw [List.drop_eq_getElem_cons h1, idxB] at hx
    (repeat (first | refine c_seq ?_ | refine c_reg ?_ | refine c_rnil ?_ | refine c_block ?_ | refine c_skip ?_ | refine c_op (by first | exact (t_callv (h := bad_f)) | exact t_move | exact t_assign | exact t_idxN | exact t_load | fail) ?_ | fail))
    refine c_ifb (fun hb => ?_) fun hb => ?_
    · rw [if_pos hb] at hx
      rw [hx]
      (repeat (first | refine c_seq ?_ | refine c_reg ?_ | refine c_rnil ?_ | refine c_op (by first | exact t_move | exact t_assign | fail) ?_ | fail))
      refine c_ret1 Tryd.func95 rfl ?_
      exact fun h => h
    · rw [if_neg (by rw [hb]; exact Bool.false_ne_true)] at hx
      (repeat (first | refine c_reg ?_ | refine c_rnil ?_ | refine c_inBlock ?_ | refine c_skip ?_ | refine c_op (by first | exact t_move | exact t_add | fail) ?_ | fail))
      exact (ih (i + 1) ⟨by omega, by rw [hx]; rfl⟩ (by omega)).sub (by repeat (first | exact trivial | refine ⟨has_rfl rfl, ?_⟩ | fail))
  · have : i = l.length := by omega
    subst this
    rw [List.drop_length, idxB] at hx
    rw [hx]
    (repeat (first | refine c_seq ?_ | refine c_reg ?_ | refine c_rnil ?_ | refine c_exit ?_ | refine c_op (by first | exact t_assign | fail) ?_ | fail))
    refine c_ret1 Tryd.func95 rfl ?_
    exact fun h => h
theorem contains_f {l : List Int} : Fn Tryd.prog 85 [pSl eI l, pv (.func (.func 86) #[] #[])] (pB (l.any badW)) := by
  refine fn_of ent85 Tryd.func85 rfl Tryd.ntmps85 rfl fun M0 w0 => ?_
  have h := idxB_any l 0 (Int.le_refl _)
  cases hb : l.any badW with
  | true =>
    have h2 := h.2 hb
    (repeat (first | refine c_seq ?_ | refine c_reg ?_ | refine c_rnil ?_ | refine c_op (by first | exact t_call (h := index_f) | exact t_move | exact t_assign | exact t_geqT | fail) ?_ | fail))
    refine c_ret1 Tryd.func85 rfl ?_
    exact fun h => h
  | false =>
    have h2 : idxB l 0 < 0 := by
      rcases Int.lt_or_le (idxB l 0) 0 with h3 | h3
      · exact h3
      · rw [h.1 h3] at hb; cases hb
    (repeat (first | refine c_seq ?_ | refine c_reg ?_ | refine c_rnil ?_ | refine c_op (by first | exact t_call (h := index_f) | exact t_move | exact t_assign | exact t_geqF | fail) ?_ | fail))
    refine c_ret1 Tryd.func85 rfl ?_
    exact fun h => h
theorem chk26_eq (w : List Int) (m : Int) : chk26 w m = if 500 < (w.length : Int) then 2 else if m < 500 ∨ 2000 < m then 5 else if w.any badW then 5 else 0 := by
  unfold chk26 okW
  have : (w.any fun x => decide (x < 1) || decide (480 < x)) = w.any badW := rfl
  rw [this]
  cases w.any badW <;> simp
theorem check_f {w : List Int} {m : Int} : Fn Tryd.prog 62 [pSl eI w, pI m] (pI (chk26 w m)) := by
  refine fn_of ent62 Tryd.func62 rfl Tryd.ntmps62 rfl fun M0 w0 => ?_
  rw [chk26_eq]
  by_cases h1 : 500 < (w.length : Int)
  · rw [if_pos h1]
    (repeat (first | refine c_seq ?_ | refine c_reg ?_ | refine c_rnil ?_ | refine c_block ?_ | refine c_true ?_ | refine c_op (by first | exact t_move | exact t_assign | exact t_gtrT | exact t_len | fail) ?_ | fail))
    refine c_ret1 Tryd.func62 rfl ?_
    exact fun h => h
  rw [if_neg h1]
  by_cases h2 : m < 500
  · rw [if_pos (.inl h2)]
    (repeat (first | refine c_seq ?_ | refine c_reg ?_ | refine c_rnil ?_ | refine c_block ?_ | refine c_true ?_ | refine c_false ?_ | refine c_no ?_ | refine c_op (by first | exact t_move | exact t_assign | exact t_pickT | exact t_lssT | exact t_gtrF | exact t_len | fail) ?_ | fail))
    refine c_ret1 Tryd.func62 rfl ?_
    exact fun h => h
  by_cases h3 : 2000 < m
  · rw [if_pos (.inr h3)]
    (repeat (first | refine c_seq ?_ | refine c_reg ?_ | refine c_rnil ?_ | refine c_block ?_ | refine c_true ?_ | refine c_false ?_ | refine c_yes ?_ | refine c_op (by first | exact t_move | exact t_assign | exact t_pickF | exact t_lssF | exact t_gtrT | exact t_gtrF | exact t_len | fail) ?_ | fail))
    refine c_ret1 Tryd.func62 rfl ?_
    exact fun h => h
  rw [if_neg (by omega)]
  cases hb : w.any badW with
  | true =>
    rw [if_pos rfl]
    have hc := contains_f (l := w)
    rw [hb] at hc
    (repeat (first | refine c_seq ?_ | refine c_reg ?_ | refine c_rnil ?_ | refine c_block ?_ | refine c_true ?_ | refine c_false ?_ | refine c_yes ?_ | refine c_op (by first | exact t_call (h := hc) | exact t_move | exact t_assign | exact t_pickF | exact t_lssF | exact t_gtrF | exact t_len | fail) ?_ | fail))
    refine c_ret1 Tryd.func62 rfl ?_
    exact fun h => h
  | false =>
    rw [if_neg Bool.false_ne_true]
    have hc := contains_f (l := w)
    rw [hb] at hc
    (repeat (first | refine c_seq ?_ | refine c_reg ?_ | refine c_rnil ?_ | refine c_block ?_ | refine c_inBlock ?_ | refine c_skip ?_ | refine c_false ?_ | refine c_yes ?_ | refine c_op (by first | exact t_call (h := hc) | exact t_move | exact t_assign | exact t_pickF | exact t_lssF | exact t_gtrF | exact t_len | fail) ?_ | fail))
    refine c_ret1 Tryd.func62 rfl ?_
    exact fun h => h
theorem regular_f {w : List Int} {m : Int} : Fn Tryd.prog 83 [pSl eI w, pI m] (pI (chk26 w m)) := by
  refine fn_of ent83 Tryd.func83 rfl Tryd.ntmps83 rfl fun M0 w0 => ?_
  rw [chk26_eq]
  by_cases h1 : 500 < (w.length : Int)
  · rw [if_pos h1]
    (repeat (first | refine c_seq ?_ | refine c_reg ?_ | refine c_rnil ?_ | refine c_true ?_ | refine c_op (by first | exact t_move | exact t_assign | exact t_gtrT | exact t_len | fail) ?_ | fail))
    refine c_ret1 Tryd.func83 rfl ?_
    exact fun h => h
  rw [if_neg h1]
  by_cases h2 : m < 500
  · rw [if_pos (.inl h2)]
    (repeat (first | refine c_seq ?_ | refine c_reg ?_ | refine c_rnil ?_ | refine c_skip ?_ | refine c_true ?_ | refine c_false ?_ | refine c_no ?_ | refine c_op (by first | exact t_move | exact t_assign | exact t_pickT | exact t_lssT | exact t_gtrF | exact t_len | fail) ?_ | fail))
    refine c_ret1 Tryd.func83 rfl ?_
    exact fun h => h
  by_cases h3 : 2000 < m
  · rw [if_pos (.inr h3)]
    (repeat (first | refine c_seq ?_ | refine c_reg ?_ | refine c_rnil ?_ | refine c_skip ?_ | refine c_true ?_ | refine c_false ?_ | refine c_yes ?_ | refine c_op (by first | exact t_move | exact t_assign | exact t_pickF | exact t_lssF | exact t_gtrT | exact t_gtrF | exact t_len | fail) ?_ | fail))
    refine c_ret1 Tryd.func83 rfl ?_
    exact fun h => h
  rw [if_neg (by omega)]
  (repeat (first | refine c_seq ?_ | refine c_reg ?_ | refine c_rnil ?_ | refine c_block ?_ | refine c_skip ?_ | refine c_false ?_ | refine c_yes ?_ | refine c_op (by first | exact t_move | exact t_assign | exact t_pickF | exact t_lssF | exact t_gtrF | exact t_len | fail) ?_ | fail))
  refine c_loop (fun i : Nat => [(0, .pu (pSl eI w)), (5, .pu (pI i))]) (fun i => i ≤ w.length ∧ ∀ j (hj : j < w.length), j < i → badW w[j] = false) (fun i => w.length - i) 0 ⟨by omega, fun _ _ h => by omega⟩ (by repeat (first | exact trivial | refine ⟨has_rfl rfl, ?_⟩ | fail)) fun i ⟨hi, hpre⟩ ih => ?_
  (repeat (first | refine c_seq ?_ | refine c_reg ?_ | refine c_rnil ?_ | refine c_op (by first | exact t_move | exact t_lss | exact t_len | fail) ?_ | fail))
  refine c_if (fun hlt => ?_) fun hge => ?_
  · have h4 : i < w.length := by omega
    by_cases h5 : w[i] < 1
    · rw [if_pos (List.any_eq_true.2 ⟨w[i], List.getElem_mem h4, by simp [badW, h5]⟩)]
      (repeat (first | refine c_seq ?_ | refine c_reg ?_ | refine c_rnil ?_ | refine c_block ?_ | refine c_skip ?_ | refine c_true ?_ | refine c_no ?_ | refine c_op (by first | exact t_move | exact t_assign | exact t_pickT | exact t_lssT | exact t_idxN | exact t_load | fail) ?_ | fail))
      refine c_ret1 Tryd.func83 rfl ?_
      exact fun h => h
    by_cases h6 : 480 < w[i]
    · rw [if_pos (List.any_eq_true.2 ⟨w[i], List.getElem_mem h4, by simp [badW, h6]⟩)]
      (repeat (first | refine c_seq ?_ | refine c_reg ?_ | refine c_rnil ?_ | refine c_block ?_ | refine c_skip ?_ | refine c_true ?_ | refine c_yes ?_ | refine c_op (by first | exact t_move | exact t_assign | exact t_pickF | exact t_lssF | exact t_gtrT | exact t_idxN | exact t_load | fail) ?_ | fail))
      refine c_ret1 Tryd.func83 rfl ?_
      exact fun h => h
    (repeat (first | refine c_seq ?_ | refine c_reg ?_ | refine c_rnil ?_ | refine c_block ?_ | refine c_inBlock ?_ | refine c_skip ?_ | refine c_false ?_ | refine c_yes ?_ | refine c_op (by first | exact t_move | exact t_assign | exact t_pickF | exact t_add | exact t_lssF | exact t_gtrF | exact t_idxN | exact t_load | fail) ?_ | fail))
    refine (ih (i + 1) ⟨by omega, fun j hj hji => ?_⟩ (by omega)).sub (by repeat (first | exact trivial | refine ⟨has_rfl rfl, ?_⟩ | fail))
    rcases Nat.lt_or_ge j i with h | h
    · exact hpre j hj h
    · have : j = i := by omega
      subst this
      simp [badW, h5, h6]
  · have hany : ¬ w.any badW = true := fun hc => by
      obtain ⟨x, hx, hx2⟩ := List.any_eq_true.1 hc
      obtain ⟨j, hj, rfl⟩ := List.mem_iff_getElem.1 hx
      rw [hpre j hj (by omega)] at hx2
      cases hx2
    rw [if_neg hany]
    (repeat (first | refine c_seq ?_ | refine c_reg ?_ | refine c_rnil ?_ | refine c_exit ?_ | refine c_op (by first | exact t_assign | fail) ?_ | fail))
    refine c_ret1 Tryd.func83 rfl ?_
    exact fun h => h
theorem slk_bd {m : Int} : ∀ {l : List Int} {k : Nat}, l.length ≤ k → (∀ x ∈ l, 1 ≤ x ∧ x ≤ 480) → m + 6 - 486 * k ≤ slk m l ∧ slk m l ≤ m + 6
  | [], k, _, _ => by rw [slk_nil]; omega
  | x :: l, k, hk, h => by
    obtain ⟨k, rfl⟩ : ∃ j, k = j + 1 := ⟨k - 1, by simp at hk; omega⟩
    have h1 := h x (by simp)
    have := slk_bd (m := m - (x + 6)) (l := l) (k := k) (by simpa using hk) (fun y hy => h y (by simp [hy]))
    rw [slk_cons]
    omega
theorem slack_f {l : List Int} {m : Int} (hm : 0 ≤ m ∧ m ≤ 2000) (hl : l.length ≤ 500) (hw : ∀ x ∈ l, 1 ≤ x ∧ x ≤ 480) : Fn Tryd.prog 63 [pSl eI l, pI m] (pI (slk m l)) := by
  refine fn_of ent63 Tryd.func63 rfl Tryd.ntmps63 rfl fun M0 w0 => ?_
  (repeat (first | refine c_seq ?_ | refine c_reg ?_ | refine c_rnil ?_ | refine c_block ?_ | refine c_op (by first | exact t_move | exact t_assign | exact t_add | exact t_len | fail) ?_ | fail))
  refine c_loop (fun i : Nat => [(5, .pu (pI (slk m (l.take i)))), (10, .pu (pSl eI l)), (11, .pu (pI l.length)), (12, .pu (pI i))]) (fun i => i ≤ l.length) (fun i => l.length - i) 0 (by omega) ⟨has_int rfl (by rw [List.take_zero, slk_nil]), (by repeat (first | exact trivial | refine ⟨has_rfl rfl, ?_⟩ | fail))⟩ fun i hi ih => ?_
  (repeat (first | refine c_seq ?_ | refine c_reg ?_ | refine c_rnil ?_ | refine c_op (by first | exact t_lss | fail) ?_ | fail))
  refine c_if (fun hlt => ?_) fun hge => ?_
  · have h1 : i < l.length := by omega
    have h2 := slk_take_succ m l i h1
    have h3 := hw _ (List.getElem_mem h1)
    have h4 := slk_bd (m := m) (l := l.take i) (k := 500) (by rw [List.length_take]; omega) (fun x hx => hw x (List.mem_of_mem_take hx))
    (repeat (first | refine c_seq ?_ | refine c_reg ?_ | refine c_rnil ?_ | refine c_block ?_ | refine c_inBlock ?_ | refine c_skip ?_ | refine c_op (by first | exact t_move | exact t_assign | exact t_add | exact t_sub | exact t_idxN | exact t_load | fail) ?_ | fail))
    exact (ih (i + 1) (by omega) (by omega)).sub (by repeat (first | exact trivial | refine ⟨has_rfl rfl, ?_⟩ | refine ⟨has_int rfl (by first | omega | fail), ?_⟩))
  · have : i = l.length := by omega
    subst this
    rw [List.take_length]
    (repeat (first | refine c_seq ?_ | refine c_reg ?_ | refine c_rnil ?_ | refine c_exit ?_ | refine c_op (by first | exact t_move | exact t_assign | fail) ?_ | fail))
    refine c_ret1 Tryd.func63 rfl ?_
    exact fun h => h
theorem slackR_f {l : List Int} {m : Int} (hm : 0 ≤ m ∧ m ≤ 2000) (hl : l.length ≤ 500) (hw : ∀ x ∈ l, 1 ≤ x ∧ x ≤ 480) : Fn Tryd.prog 84 [pSl eI l, pI m] (pI (slk m l)) := by
  refine fn_of ent84 Tryd.func84 rfl Tryd.ntmps84 rfl fun M0 w0 => ?_
  (repeat (first | refine c_seq ?_ | refine c_reg ?_ | refine c_rnil ?_ | refine c_block ?_ | refine c_op (by first | exact (t_mul) | exact t_move | exact t_assign | exact t_sub | exact t_len | fail) ?_ | fail))
  refine c_loop (fun i : Nat => [(0, .pu (pSl eI l)), (5, .pu (pI (slk m (l.take i) + 6 * i - 6 * l.length))), (6, .pu (pI i))]) (fun i => i ≤ l.length) (fun i => l.length - i) 0 (by omega) ⟨has_rfl rfl, has_int rfl (by rw [List.take_zero, slk_nil]; omega), (by repeat (first | exact trivial | refine ⟨has_rfl rfl, ?_⟩ | fail))⟩ fun i hi ih => ?_
  (repeat (first | refine c_seq ?_ | refine c_reg ?_ | refine c_rnil ?_ | refine c_op (by first | exact t_move | exact t_lss | exact t_len | fail) ?_ | fail))
  refine c_if (fun hlt => ?_) fun hge => ?_
  · have h1 : i < l.length := by omega
    have h2 := slk_take_succ m l i h1
    have h3 := hw _ (List.getElem_mem h1)
    have h4 := slk_bd (m := m) (l := l.take i) (k := 500) (by rw [List.length_take]; omega) (fun x hx => hw x (List.mem_of_mem_take hx))
    (repeat (first | refine c_seq ?_ | refine c_reg ?_ | refine c_rnil ?_ | refine c_block ?_ | refine c_inBlock ?_ | refine c_skip ?_ | refine c_op (by first | exact t_move | exact t_assign | exact t_add | exact t_sub | exact t_idxN | exact t_load | fail) ?_ | fail))
    exact (ih (i + 1) (by omega) (by omega)).sub (by repeat (first | exact trivial | refine ⟨has_rfl rfl, ?_⟩ | refine ⟨has_int rfl (by first | omega | fail), ?_⟩))
  · have : i = l.length := by omega
    subst this
    rw [List.take_length, show slk m l + 6 * (l.length : Int) - 6 * l.length = slk m l by omega]
    (repeat (first | refine c_seq ?_ | refine c_reg ?_ | refine c_rnil ?_ | refine c_exit ?_ | refine c_op (by first | exact t_move | exact t_assign | fail) ?_ | fail))
    refine c_ret1 Tryd.func84 rfl ?_
    exact fun h => h
end Go.Proofs.YtedlipgopicijaaDoor
end

section
namespace Go.Proofs.YtedlipgopicijaaDoor
open Go Go.RowKit
theorem ordE_len {n : Int} : ∀ {l : List Int} {a : Int}, ordE n a l = true → (l.length : Int) ≤ n - a
  | [], a, h => by simp [ordE] at h; simp; omega
  | e :: r, a, h => by
    simp only [ordE, Bool.and_eq_true, decide_eq_true_eq] at h
    have := ordE_len h.2
    simp only [List.length_cons]
    omega
theorem seg_mem {w : List Int} {a b : Int} : ∀ x ∈ seg w a b, x ∈ w := fun _ hx => List.mem_of_mem_drop (List.mem_of_mem_take hx)
theorem seg_len {w : List Int} {a b : Int} : (seg w a b).length ≤ w.length := by
  unfold seg
  rw [List.length_take, List.length_drop]
  omega
theorem cost_eq {w ends : List Int} {m c e : Int} (h0 : chk26 w m = 0) (ho : ordE w.length 0 ends = true) (hc : (match costG w m 0 ends with | some c => (c, (0 : Int)) | none => (0, 9)) = (c, e)) : costM w m ends = (c, e) := by
  unfold costM
  rw [if_neg (by omega), if_pos ho]
  exact hc
set_option maxHeartbeats 1000000 in
theorem cost_f {w ends : List Int} {m : Int} : Fn Tryd.prog 37 [pSl eI w, pI m, pSl eI ends] (pT2 (pI (costM w m ends).1) (pI (costM w m ends).2)) := by
  refine fn_of ent37 Tryd.func37 rfl Tryd.ntmps37 rfl fun M0 w0 => ?_
  refine c_have 0 (fun h => i_len26 h) fun hl1 => ?_
  refine c_have 2 (fun h => i_len26 h) fun hl2 => ?_
  by_cases hchk : chk26 w m = 0
  case neg =>
    have e : costM w m ends = (0, chk26 w m) := by unfold costM; rw [if_pos hchk]
    rw [e]
    (repeat (first | refine c_seq ?_ | refine c_reg ?_ | refine c_rnil ?_ | refine c_true ?_ | refine c_op (by first | exact t_call (h := check_f) | exact t_move | exact t_assign | exact t_neqT | fail) ?_ | fail))
    refine c_ret2 Tryd.func37 rfl ?_
    exact fun h1 h2 => ⟨_, _, rfl, h1, h2⟩
  obtain ⟨hn, hm1, hm2, hw⟩ := chk26_ok hchk
  (repeat (first | refine c_seq ?_ | refine c_reg ?_ | refine c_rnil ?_ | refine c_block ?_ | refine c_skip ?_ | refine c_false ?_ | refine c_op (by first | exact t_call (h := check_f) | exact t_move | exact t_assign | exact t_neqF | exact t_len | fail) ?_ | fail))
  refine c_loop (fun x : Nat × Int => [(0, .pu (pSl eI w)), (1, .pu (pI m)), (2, .pu (pSl eI ends)), (9, .pu (pI x.2)), (23, .pu (pSl eI ends)), (24, .pu (pI ends.length)), (25, .pu (pI x.1))])
    (fun x => x.1 ≤ ends.length ∧ ordE w.length 0 ends = ordE w.length x.2 (ends.drop x.1)) (fun x => ends.length - x.1) (0, 0) ⟨Nat.zero_le _, rfl⟩ (by repeat (first | exact trivial | refine ⟨has_rfl rfl, ?_⟩ | fail)) ?_
  rintro ⟨k, last⟩ ⟨hk, hord⟩ ih
  dsimp only at hk hord ih ⊢
  (repeat (first | refine c_seq ?_ | refine c_reg ?_ | refine c_rnil ?_ | refine c_op (by first | exact t_lss | fail) ?_ | fail))
  refine c_if (fun hlt => ?_) fun hge => ?_
  · have hk2 : k < ends.length := by omega
    rw [List.drop_eq_getElem_cons hk2, ordE] at hord
    by_cases hle : ends[k] ≤ last
    · have e : costM w m ends = (0, 12) := by
        unfold costM
        rw [if_neg (by omega), if_neg (by rw [hord, decide_eq_false (by omega)]; simp)]
      rw [e]
      (repeat (first | refine c_seq ?_ | refine c_reg ?_ | refine c_rnil ?_ | refine c_block ?_ | refine c_skip ?_ | refine c_true ?_ | refine c_op (by first | exact t_move | exact t_assign | exact t_leqT | exact t_idxN | exact t_load | fail) ?_ | fail))
      refine c_ret2 Tryd.func37 rfl ?_
      exact fun h1 h2 => ⟨_, _, rfl, h1, h2⟩
    · rw [decide_eq_true (by omega), Bool.true_and] at hord
      (repeat (first | refine c_seq ?_ | refine c_reg ?_ | refine c_rnil ?_ | refine c_block ?_ | refine c_inBlock ?_ | refine c_skip ?_ | refine c_false ?_ | refine c_op (by first | exact t_move | exact t_assign | exact t_add | exact t_leqF | exact t_idxN | exact t_load | fail) ?_ | fail))
      exact (ih (k + 1, ends[k]) ⟨by dsimp only; omega, hord⟩ (by dsimp only; omega)).sub (by repeat (first | exact trivial | refine ⟨has_rfl rfl, ?_⟩ | fail))
  have hke : k = ends.length := by omega
  subst hke
  rw [List.drop_length, ordE] at hord
  by_cases hlast : last = w.length
  case neg =>
    have e : costM w m ends = (0, 12) := by
      unfold costM
      rw [if_neg (by omega), if_neg (by rw [hord, decide_eq_false hlast]; exact Bool.false_ne_true)]
    rw [e]
    (repeat (first | refine c_seq ?_ | refine c_reg ?_ | refine c_rnil ?_ | refine c_exit ?_ | refine c_true ?_ | refine c_op (by first | exact t_move | exact t_assign | exact t_neqT | exact t_len | fail) ?_ | fail))
    refine c_ret2 Tryd.func37 rfl ?_
    exact fun h1 h2 => ⟨_, _, rfl, h1, h2⟩
  rw [decide_eq_true hlast] at hord
  have hel := ordE_len hord
  (repeat (first | refine c_seq ?_ | refine c_reg ?_ | refine c_rnil ?_ | refine c_block ?_ | refine c_exit ?_ | refine c_skip ?_ | refine c_false ?_ | refine c_op (by first | exact t_move | exact t_assign | exact t_neqF | exact t_len | fail) ?_ | fail))
  refine c_loop (fun x : Nat × Int × Int => [(0, .pu (pSl eI w)), (1, .pu (pI m)), (2, .pu (pSl eI ends)), (12, .pu (pI x.2.2)), (13, .pu (pI x.2.1)), (38, .pu (pSl eI ends)), (39, .pu (pI ends.length)), (40, .pu (pI x.1))])
    (fun x => x.1 ≤ ends.length ∧ 0 ≤ x.2.1 ∧ ordE w.length x.2.1 (ends.drop x.1) = true ∧ 0 ≤ x.2.2 ∧ x.2.2 ≤ 4024036 * x.1 ∧ costG w m 0 ends = (costG w m x.2.1 (ends.drop x.1)).map fun c => x.2.2 + c) (fun x => ends.length - x.1) (0, 0, 0)
    ⟨Nat.zero_le _, Int.le_refl _, hord, Int.le_refl _, by simp, by simp⟩ (by repeat (first | exact trivial | refine ⟨has_rfl rfl, ?_⟩ | fail)) ?_
  rintro ⟨k, from_, cost⟩ ⟨hk, hf0, ho, hc0, hc1, hcost⟩ ih
  dsimp only at hk hf0 ho hc0 hc1 hcost ih ⊢
  (repeat (first | refine c_seq ?_ | refine c_reg ?_ | refine c_rnil ?_ | refine c_op (by first | exact t_lss | fail) ?_ | fail))
  refine c_if (fun hlt => ?_) fun hge => ?_
  · have hk2 : k < ends.length := by omega
    rw [List.drop_eq_getElem_cons hk2] at ho hcost
    simp only [ordE, Bool.and_eq_true, decide_eq_true_eq] at ho
    obtain ⟨ho1, ho2⟩ := ho
    have hen := (ordE_le ho2).1
    have hs1 : (seg w from_ ends[k]).length ≤ 500 := Nat.le_trans seg_len hn
    have hs2 : ∀ x ∈ seg w from_ ends[k], 1 ≤ x ∧ x ≤ 480 := fun x hx => hw x (seg_mem x hx)
    have hs3 := slk_bd (m := m) hs1 hs2
    rw [costG] at hcost
    (repeat (first | refine c_seq ?_ | refine c_reg ?_ | refine c_rnil ?_ | refine c_block ?_ | refine c_skip ?_ | refine c_op (by first | exact (t_sliceM) | exact t_call (h := (slack_f (l := seg w from_ ends[k]) (by omega) hs1 hs2)) | exact t_move | exact t_assign | exact t_lss | exact t_idxN | exact t_load | fail) ?_ | fail))
    refine c_if (fun hneg => ?_) fun hpos => ?_
    · rw [if_pos hneg, Option.map_none] at hcost
      rw [cost_eq (c := 0) (e := 9) hchk hord (by rw [hcost])]
      (repeat (first | refine c_seq ?_ | refine c_reg ?_ | refine c_rnil ?_ | refine c_op (by first | exact t_assign | fail) ?_ | fail))
      refine c_ret2 Tryd.func37 rfl ?_
      exact fun h1 h2 => ⟨_, _, rfl, h1, h2⟩
    rw [if_neg hpos] at hcost
    have hsq0 := sq_nonneg (slk m (seg w from_ ends[k]))
    have hsq1 : slk m (seg w from_ ends[k]) * slk m (seg w from_ ends[k]) ≤ 4024036 := Int.le_trans (Int.mul_le_mul (show _ ≤ (2006 : Int) by omega) (show _ ≤ (2006 : Int) by omega) (by omega) (by omega)) (by decide)
    by_cases hmore : k + 1 < ends.length
    · have hne : ends.drop (k + 1) ≠ [] := fun h => by have := congrArg List.length h; rw [List.length_drop, List.length_nil] at this; omega
      rw [if_neg hne, Option.map_map] at hcost
      (repeat (first | refine c_seq ?_ | refine c_reg ?_ | refine c_rnil ?_ | refine c_inBlock ?_ | refine c_skip ?_ | refine c_true ?_ | refine c_op (by first | exact (t_mul) | exact t_move | exact t_assign | exact t_add | exact t_lssT | exact t_len | fail) ?_ | fail))
      refine (ih (k + 1, ends[k], cost + slk m (seg w from_ ends[k]) * slk m (seg w from_ ends[k])) ⟨by dsimp only; omega, by dsimp only; omega, ho2, by dsimp only; omega, by dsimp only; omega, ?_⟩ (by dsimp only; omega)).sub (by repeat (first | exact trivial | refine ⟨has_rfl rfl, ?_⟩ | fail))
      rw [hcost]
      congr 1
      funext c
      dsimp only [Function.comp]
      omega
    · have hne : ends.drop (k + 1) = [] := List.drop_of_length_le (by omega)
      rw [if_pos hne, Option.map_some] at hcost
      (repeat (first | refine c_seq ?_ | refine c_reg ?_ | refine c_rnil ?_ | refine c_inBlock ?_ | refine c_skip ?_ | refine c_false ?_ | refine c_op (by first | exact t_move | exact t_assign | exact t_add | exact t_lssF | exact t_len | fail) ?_ | fail))
      refine (ih (k + 1, ends[k], cost) ⟨by dsimp only; omega, by dsimp only; omega, ho2, hc0, by dsimp only; omega, ?_⟩ (by dsimp only; omega)).sub (by repeat (first | exact trivial | refine ⟨has_rfl rfl, ?_⟩ | fail))
      rw [hcost, hne, costG]
      rfl
  have hke : k = ends.length := by omega
  subst hke
  rw [List.drop_length, costG, Option.map_some, Int.add_zero] at hcost
  rw [cost_eq (c := cost) (e := 0) hchk hord (by rw [hcost])]
  (repeat (first | refine c_seq ?_ | refine c_reg ?_ | refine c_rnil ?_ | refine c_exit ?_ | refine c_op (by first | exact t_move | exact t_assign | fail) ?_ | fail))
  refine c_ret2 Tryd.func37 rfl ?_
  exact fun h1 h2 => ⟨_, _, rfl, h1, h2⟩
end Go.Proofs.YtedlipgopicijaaDoor
end

section
namespace Go.Proofs.YtedlipgopicijaaDoor
open Go Go.RowKit
theorem has_pu {G : TF} {t : Nat} {p q : Pub} (h : tlook G t = some (.pu p)) (e : p = q) : Has G t (.pu q) := e ▸ has_rfl h
theorem has_rwE {G : TF} {t : Nat} {α : Type} {E : Enc α} {b tag : Nat} {l l' : List α} {ty : TypeId} (h : tlook G t = some (.rw b tag E l ty)) (e : l = l') : Has G t (.rw b tag E l' ty) := e ▸ has_rfl h
section
variable {P : Program} {f : FuncId} {N : Nat} {M0 : Mut} {w0 : World} {R : Value → World → Prop} {G : TF} {k : List Item}
theorem c_scope {c : Code} (h : Rt P f N M0 w0 (.code c :: .inScope c :: k) G R) : Rt P f N M0 w0 (.code (.scope c) :: k) G R := ⟨fun hr hf => ⟨fun a ha => ((h.out hr hf).out a ha).step fun _ _ => .one step_scope⟩⟩
theorem c_inScope {c : Code} (h : Rt P f N M0 w0 k G R) : Rt P f N M0 w0 (.inScope c :: k) G R := ⟨fun hr hf => ⟨fun a ha => ((h.out hr hf).out a ha).step fun _ _ => .one step_inScope⟩⟩
end
section
variable {P : Program} {N : Nat} {G : TF} {d : Option Tmp} {ty : TypeId} {pos : String} {aft : Array Edge} {g : Option (Nat × Bool)}
theorem t_idxRN {α : Type} {E : Enc α} {x i : Operand} {b len tag : Nat} {l : List α} {t e : TypeId} {k : IntKind} {n : Nat} (key : Nat) (hx : topP G x = some (pSr b len) := by rfl) (hi : topP G i = some (pK k (n : Int)) := by rfl)
    (hg : tlook G key = some (.rw b tag E l e) := by rfl) (ht : USl P t e := by infer_instance) (hE : TEc P e E := by infer_instance) (h0 : n < len := by omega) :
    TOp P N ⟨d, .indexAddr t x i, ty, pos, aft, g⟩ G [] (.pu (pRo b E n)) := t_idxR key hx hi hg ht hE (by omega)
end
def rowC (m : Int) (w : List Int) (k : Nat) : List Int := List.replicate k 0 ++ (dpl m (w.drop k) k).map (·.1)
def rowE (m : Int) (w : List Int) (k : Nat) : List Int := List.replicate k 0 ++ (dpl m (w.drop k) k).map (·.2)
section
variable {m : Int} {w : List Int}
theorem rowC_len {k : Nat} (hk : k ≤ w.length) : (rowC m w k).length = w.length + 1 := by
  unfold rowC
  rw [List.length_append, List.length_replicate, List.length_map, dpl_len, List.length_drop]
  omega
theorem rowE_len {k : Nat} (hk : k ≤ w.length) : (rowE m w k).length = w.length + 1 := by
  unfold rowE
  rw [List.length_append, List.length_replicate, List.length_map, dpl_len, List.length_drop]
  omega
theorem dpl_at {k j : Nat} (hk : k ≤ w.length) (hj : j ≤ w.length - k) : (dpl m (w.drop k) k)[j]? = some (at26 (dpl m w 0) (k + j)) := by
  rw [at_drop m w k j hk]
  unfold at26
  have hl := dpl_len m (w.drop k) k
  rw [List.length_drop] at hl
  rw [List.getElem?_eq_getElem (by omega), Option.getD_some]
theorem rowC_get {k j : Nat} (hk : k ≤ j) (hj : j ≤ w.length) : (rowC m w k)[j]? = some (at26 (dpl m w 0) j).1 := by
  unfold rowC
  rw [List.getElem?_append_right (by simpa using hk), List.length_replicate, List.getElem?_map, dpl_at (by omega) (by omega), show k + (j - k) = j by omega]
  rfl
theorem rowE_get {k j : Nat} (hk : k ≤ j) (hj : j ≤ w.length) : (rowE m w k)[j]? = some (at26 (dpl m w 0) j).2 := by
  unfold rowE
  rw [List.getElem?_append_right (by simpa using hk), List.length_replicate, List.getElem?_map, dpl_at (by omega) (by omega), show k + (j - k) = j by omega]
  rfl
theorem dpl_head {i : Nat} (hi : i < w.length) : dpl m (w.drop i) i = at26 (dpl m w 0) i :: dpl m (w.drop (i + 1)) (i + 1 : Nat) := by
  have h0 := dpl_at (m := m) (w := w) (k := i) (j := 0) (by omega) (by omega)
  have hd := dpl_drop m (w.drop i) i 1 (by rw [List.length_drop]; omega)
  rw [List.drop_drop] at hd
  have hl := dpl_len m (w.drop i) i
  cases hc : dpl m (w.drop i) i with
  | nil => rw [hc] at hl; simp at hl
  | cons p r =>
    rw [hc] at h0 hd
    simp only [List.getElem?_cons_zero, Nat.add_zero, Option.some.injEq] at h0
    simp only [List.drop_succ_cons, List.drop_zero] at hd
    rw [h0, hd]
    rfl
theorem rowC_set {i : Nat} (hi : i < w.length) : (rowC m w (i + 1)).set i (at26 (dpl m w 0) i).1 = rowC m w i := by
  unfold rowC
  rw [dpl_head hi, List.map_cons, List.replicate_succ', List.append_assoc, List.set_append_right _ _ (by simp), List.length_replicate, Nat.sub_self]
  rfl
theorem rowE_set {i : Nat} (hi : i < w.length) : (rowE m w (i + 1)).set i (at26 (dpl m w 0) i).2 = rowE m w i := by
  unfold rowE
  rw [dpl_head hi, List.map_cons, List.replicate_succ', List.append_assoc, List.set_append_right _ _ (by simp), List.length_replicate, Nat.sub_self]
  rfl
theorem rowC_end : rowC m w w.length = List.replicate (w.length + 1) 0 := by
  unfold rowC
  rw [List.drop_length, dpl, List.replicate_succ']
  rfl
theorem rowE_end : rowE m w w.length = List.replicate (w.length + 1) 0 := by
  unfold rowE
  rw [List.drop_length, dpl, List.replicate_succ']
  rfl
theorem at_inn {i : Nat} (hi : i < w.length) : at26 (dpl m w 0) i = inn m (w.drop i) (dpl m (w.drop (i + 1)) (i + 1 : Nat)) (i + 1) (m + 6) (-1) 0 := by
  have := dpl_head (m := m) hi
  rw [List.drop_eq_getElem_cons hi, dpl] at this
  have := (List.cons.inj this).1
  rw [List.drop_eq_getElem_cons hi]
  exact this.symm
theorem inn_step {i kk : Nat} (hi : i + kk < w.length) {j s c e : Int} : inn m ((w.drop i).drop kk) ((dpl m (w.drop (i + 1)) (i + 1 : Nat)).drop kk) j s c e =
    if s - (w[i + kk] + 6) < 0 then (c, e)
    else if i + kk + 1 = w.length then (0, j)
    else if c < 0 ∨ (s - (w[i + kk] + 6)) * (s - (w[i + kk] + 6)) + (at26 (dpl m w 0) (i + 1 + kk)).1 ≤ c then
      inn m ((w.drop i).drop (kk + 1)) ((dpl m (w.drop (i + 1)) (i + 1 : Nat)).drop (kk + 1)) (j + 1) (s - (w[i + kk] + 6)) ((s - (w[i + kk] + 6)) * (s - (w[i + kk] + 6)) + (at26 (dpl m w 0) (i + 1 + kk)).1) j
    else inn m ((w.drop i).drop (kk + 1)) ((dpl m (w.drop (i + 1)) (i + 1 : Nat)).drop (kk + 1)) (j + 1) (s - (w[i + kk] + 6)) c e := by
  have h1 : (w.drop i).drop kk = w[i + kk] :: (w.drop i).drop (kk + 1) := by
    rw [List.drop_eq_getElem_cons (by rw [List.length_drop]; omega), List.getElem_drop]
  have hg := dpl_at (m := m) (w := w) (k := i + 1) (j := kk) (by omega) (by omega)
  have hl := dpl_len m (w.drop (i + 1)) (i + 1 : Nat)
  rw [List.length_drop] at hl
  obtain ⟨q1, q2⟩ := List.getElem?_eq_some_iff.1 hg
  have h2 : (dpl m (w.drop (i + 1)) (i + 1 : Nat)).drop kk = at26 (dpl m w 0) (i + 1 + kk) :: (dpl m (w.drop (i + 1)) (i + 1 : Nat)).drop (kk + 1) := by
    rw [List.drop_eq_getElem_cons q1, q2]
  rw [h1, h2, inn]
  have h3 : (w.drop i).drop (kk + 1) = [] ↔ i + kk + 1 = w.length := by
    rw [List.drop_drop, List.drop_eq_nil_iff]
    omega
  by_cases he : i + kk + 1 = w.length
  · rw [if_pos (h3.2 he), if_pos he]
  · rw [if_neg (fun h => he (h3.1 h)), if_neg he]
end
theorem at_bd {m : Int} (hm : 500 ≤ m ∧ m ≤ 2000) {w : List Int} (hw : ∀ x ∈ w, 1 ≤ x ∧ x ≤ 480) : ∀ (d j : Nat), j ≤ w.length → w.length ≤ j + d → 0 ≤ (at26 (dpl m w 0) j).1 ∧ (at26 (dpl m w 0) j).1 ≤ 4024036 * d
  | 0, j, h1, h2 => by
    have : j = w.length := by omega
    subst this
    have := dpl_at (m := m) (w := w) (k := w.length) (j := 0) (by omega) (by omega)
    rw [List.drop_length, dpl] at this
    simp only [List.getElem?_cons_zero, Option.some.injEq, Nat.add_zero] at this
    rw [← this]
    simp
  | d + 1, j, h1, h2 => by
    rcases Nat.eq_or_lt_of_le h1 with h | h
    · have := at_bd hm hw 0 j h1 (by omega)
      omega
    · have hB := at_best m hm.1 hw j h
      have hul : (w.drop j).length = w.length - j := List.length_drop
      have hlo := hB.lo
      have hhi := hB.hi
      obtain ⟨k, hk⟩ : ∃ k : Nat, (at26 (dpl m w 0) j).2 = ((j + k : Nat) : Int) := ⟨((at26 (dpl m w 0) j).2 - j).toNat, by omega⟩
      have heq := hB.eq
      have hfit := hB.fit
      rw [hk] at heq hfit
      rw [show (((j + k : Nat) : Int) - (j : Int)).toNat = k by omega] at heq hfit
      rw [cand_at m w j k h (by omega)] at heq
      split at heq
      · omega
      · have ih := at_bd hm hw d (j + k) (by omega) (by omega)
        have hsl := slk_bd (m := m) (l := (w.drop j).take k) (k := (w.drop j).length) (by rw [List.length_take]; omega) (fun x hx => hw x (List.mem_of_mem_drop (List.mem_of_mem_take hx)))
        have h3 := sq_nonneg (slk m ((w.drop j).take k))
        have h4 : slk m ((w.drop j).take k) * slk m ((w.drop j).take k) ≤ 4024036 := Int.le_trans (Int.mul_le_mul (show _ ≤ (2006 : Int) by omega) (show _ ≤ (2006 : Int) by omega) (by omega) (by omega)) (by decide)
        omega
theorem set_same {l : List Int} {i : Nat} {v : Int} (h : l[i]? = some v) : l.set i v = l := by
  apply List.ext_getElem?
  intro j
  rw [List.getElem?_set]
  split
  · rename_i hj
    subst hj
    obtain ⟨h1, _⟩ := List.getElem?_eq_some_iff.1 h
    rw [if_pos h1, h]
  · rfl
theorem rowC_zero {m : Int} {w : List Int} {i : Nat} (_hi : i < w.length) : (rowC m w (i + 1))[i]? = some 0 := by
  unfold rowC
  rw [List.getElem?_append_left (by simp)]
  simp
theorem rowE_zero {m : Int} {w : List Int} {i : Nat} (_hi : i < w.length) : (rowE m w (i + 1))[i]? = some 0 := by
  unfold rowE
  rw [List.getElem?_append_left (by simp)]
  simp
set_option maxRecDepth 8000 in
set_option maxHeartbeats 4000000 in
theorem ends_f {w : List Int} {m : Int} : Fn Tryd.prog 36 [pSl eI w, pI m] (pT2 (pSl eI (if chk26 w m = 0 then endsM w m else [])) (pI (chk26 w m))) := by
  refine fn_of ent36 Tryd.func36 rfl Tryd.ntmps36 rfl fun M0 w0 => ?_
  refine c_have 0 (fun h => i_len26 h) fun hl1 => ?_
  by_cases hchk : chk26 w m = 0
  case neg =>
    rw [if_neg hchk]
    (repeat (first | refine c_seq ?_ | refine c_reg ?_ | refine c_rnil ?_ | refine c_true ?_ | refine c_op (by first | exact t_call (h := check_f) | exact t_move | exact t_assign | exact t_neqT | fail) ?_ | fail))
    refine c_ret2 Tryd.func36 rfl ?_
    exact fun h1 h2 => ⟨_, _, rfl, by rw [show _ = _ from h1]; exact SlOf.nil _ _ _, h2⟩
  rw [if_pos hchk, hchk]
  obtain ⟨hn, hm1, hm2, hw⟩ := chk26_ok hchk
  (repeat (first | refine c_seq ?_ | refine c_reg ?_ | refine c_rnil ?_ | refine c_skip ?_ | refine c_false ?_ | refine c_op (by first | exact t_call (h := check_f) | exact t_move | exact t_assign | exact t_neqF | exact t_len | fail) ?_ | fail))
  refine c_draw0 mixed (by kernel_rfl) ?_
  (repeat (first | refine d_op (by first | exact t_move | exact t_add | fail) ?_ | fail))
  refine d_op (t_mk 1) ?_
  (repeat (first | refine d_op (by first | exact t_move | exact t_add | fail) ?_ | fail))
  refine d_op (t_mk 2) ?_
  (repeat (first | refine d_op (by first | exact t_assignO | fail) ?_ | fail))
  refine d_nil (q_nil ?_ (by kernel_rfl))
  refine c_row 8 100001 fun b1 => c_row 9 100002 fun b2 => ?_
  (repeat (first | refine c_seq ?_ | refine c_reg ?_ | refine c_rnil ?_ | refine c_block ?_ | refine c_op (by first | exact t_move | exact t_assign | exact t_sub | fail) ?_ | fail))
  refine c_loop (fun k : Nat => [(0, .pu (pSl eI w)), (1, .pu (pI m)), (7, .pu (pI w.length)), (8, .pu (pSr b1 (w.length + 1))), (9, .pu (pSr b2 (w.length + 1))), (10, .pu (pI ((k : Int) - 1))), (100001, .rw b1 1 eI (rowC m w k) 3), (100002, .rw b2 2 eI (rowE m w k) 3)])
    (fun k => k ≤ w.length) (fun k => k) w.length (Nat.le_refl _) ?_ fun k hk ih => ?_
  · (repeat' (first | exact trivial | refine ⟨?_, ?_⟩ | fail)) <;> (try first | exact has_rfl rfl | exact has_nil rfl | exact has_nilS rfl | exact has_gr rfl | exact has_nilGo rfl | exact has_int rfl (by first | omega | fail) | fail)
    · exact has_pu rfl (by simp [pSr])
    · exact has_pu rfl (by simp [pSr])
    · exact has_rwE rfl (by rw [rowC_end]; congr 1)
    · exact has_rwE rfl (by rw [rowE_end]; congr 1)
  (repeat (first | refine c_seq ?_ | refine c_reg ?_ | refine c_rnil ?_ | refine c_op (by first | exact t_move | exact t_geq | fail) ?_ | fail))
  refine c_if (fun hlt => ?_) fun hge => ?_
  · obtain ⟨i, rfl⟩ : ∃ i, k = i + 1 := ⟨k - 1, by omega⟩
    have hi : i < w.length := by omega
    have hCl := rowC_len (m := m) (w := w) (k := i + 1) hk
    have hEl := rowE_len (m := m) (w := w) (k := i + 1) hk
    refine c_to 10 (.pu (pI i)) (has_int rfl (by omega)) ?_
    (repeat (first | refine c_seq ?_ | refine c_reg ?_ | refine c_rnil ?_ | refine c_block ?_ | refine c_skip ?_ | refine c_label ?_ | refine c_scope ?_ | refine c_op (by first | exact t_move | exact t_assign | exact t_add | fail) ?_ | fail))
    refine c_loop (fun x : Nat × Int × Int × Int => [(0, .pu (pSl eI w)), (1, .pu (pI m)), (7, .pu (pI w.length)), (8, .pu (pSr b1 (w.length + 1))), (9, .pu (pSr b2 (w.length + 1))), (10, .pu (pI i)), (11, .pu (pI x.2.1)), (12, .pu (pI (i + 1 + x.1 : Nat))),
        (100001, .rw b1 1 eI ((rowC m w (i + 1)).set i x.2.2.1) 3), (100002, .rw b2 2 eI ((rowE m w (i + 1)).set i x.2.2.2) 3)])
      (fun x => i + x.1 < w.length ∧ x.2.1 ≤ m + 6 ∧ 0 ≤ x.2.1 ∧ (x.1 = 0 → x.2.1 = m + 6) ∧ (x.1 ≠ 0 → 0 ≤ x.2.2.1) ∧ inn m ((w.drop i).drop x.1) ((dpl m (w.drop (i + 1)) (i + 1 : Nat)).drop x.1) (i + 1 + x.1 : Nat) x.2.1 (if x.1 = 0 then -1 else x.2.2.1) x.2.2.2 = at26 (dpl m w 0) i)
      (fun x => w.length - x.1) (0, m + 6, 0, 0) ⟨hi, Int.le_refl _, by dsimp only; omega, fun _ => rfl, fun h => absurd rfl h, (at_inn hi).symm⟩ ?_ ?_
    · (repeat' (first | exact trivial | refine ⟨?_, ?_⟩ | fail)) <;> (try first | exact has_rfl rfl | exact has_nil rfl | exact has_nilS rfl | exact has_gr rfl | exact has_nilGo rfl | exact has_int rfl (by first | omega | fail) | fail)
      · exact has_rwE rfl (set_same (rowC_zero hi)).symm
      · exact has_rwE rfl (set_same (rowE_zero hi)).symm
    rintro ⟨kk, s, c, e⟩ ⟨hkk, hs1, hs2, hs3, hc0, hinn⟩ ihi
    dsimp only at hkk hs1 hs2 hs3 hc0 hinn ihi ⊢
    have hx := hw _ (List.getElem_mem hkk)
    rw [inn_step hkk] at hinn
    have hv1 : ((rowC m w (i + 1)).set i c)[i + 1 + kk]? = some (at26 (dpl m w 0) (i + 1 + kk)).1 := by
      rw [List.getElem?_set_ne (by omega)]
      exact rowC_get (by omega) (by omega)
    have hv2 : ((rowC m w (i + 1)).set i c)[i]? = some c := List.getElem?_set_self (by omega)
    have hbd := at_bd ⟨hm1, hm2⟩ hw 500 (i + 1 + kk) (by omega) (by omega)
    by_cases hneg : s - (w[i + kk] + 6) < 0
    · rw [if_pos hneg] at hinn
      have hk0 : kk ≠ 0 := fun h => by have := hs3 h; omega
      rw [if_neg hk0] at hinn
      (repeat (first | refine c_seq ?_ | refine c_reg ?_ | refine c_rnil ?_ | refine c_block ?_ | refine c_inBlock ?_ | refine c_exit ?_ | refine c_true ?_ | refine c_inScope ?_ | refine c_op (by first | exact (t_idxE (n := i + kk) (hm := by omega)) | exact t_move | exact t_assign | exact t_add | exact t_sub | exact t_lssT | exact t_load | fail) ?_ | fail))
      refine (ih i (by omega) (by omega)).sub ?_
      (repeat' (first | exact trivial | refine ⟨?_, ?_⟩ | fail)) <;> (try first | exact has_rfl rfl | exact has_nil rfl | exact has_nilS rfl | exact has_gr rfl | exact has_nilGo rfl | exact has_int rfl (by first | omega | fail) | fail)
      · exact has_rwE rfl (by rw [← rowC_set hi, ← hinn])
      · exact has_rwE rfl (by rw [← rowE_set hi, ← hinn])
    rw [if_neg hneg] at hinn
    by_cases hend : i + kk + 1 = w.length
    · rw [if_pos hend] at hinn
      (repeat (first | refine c_seq ?_ | refine c_reg ?_ | refine c_rnil ?_ | refine c_block ?_ | refine c_inBlock ?_ | refine c_exit ?_ | refine c_true ?_ | refine c_false ?_ | refine c_inScope ?_ | refine (c_st 100001 (t_st 100001)) ?_ | refine (c_st 100002 (t_st 100002)) ?_ | refine c_op (by first | exact (t_idxE (n := i + kk) (hm := by omega)) | exact (t_idxRN 100001) | exact (t_idxRN 100002) | exact t_move | exact t_assign | exact t_add | exact t_sub | exact t_lssF | exact t_eqlT | exact t_load | fail) ?_ | fail))
      refine (ih i (by omega) (by omega)).sub ?_
      (repeat' (first | exact trivial | refine ⟨?_, ?_⟩ | fail)) <;> (try first | exact has_rfl rfl | exact has_nil rfl | exact has_nilS rfl | exact has_gr rfl | exact has_nilGo rfl | exact has_int rfl (by first | omega | fail) | fail)
      · exact has_rwE rfl (by rw [← rowC_set hi, ← hinn, List.set_set])
      · exact has_rwE rfl (by rw [← rowE_set hi, ← hinn, List.set_set]; congr 1; omega)
    rw [if_neg hend] at hinn
    have hsq0 := sq_nonneg (s - (w[i + kk] + 6))
    have hsq1 : (s - (w[i + kk] + 6)) * (s - (w[i + kk] + 6)) ≤ 4024036 := Int.le_trans (Int.mul_le_mul (show _ ≤ (2006 : Int) by omega) (show _ ≤ (2006 : Int) by omega) (by omega) (by omega)) (by decide)
    have e1 : ((i + 1 + kk : Nat) : Int) + 1 = ((i + 1 + (kk + 1) : Nat) : Int) := by omega
    by_cases hup : kk = 0 ∨ (s - (w[i + kk] + 6)) * (s - (w[i + kk] + 6)) + (at26 (dpl m w 0) (i + 1 + kk)).1 ≤ c
    · rw [if_pos (by
        rcases hup with h | h
        · exact .inl (by rw [if_pos h]; omega)
        · by_cases h0 : kk = 0
          · exact .inl (by rw [if_pos h0]; omega)
          · exact .inr (by rw [if_neg h0]; exact h)), e1] at hinn
      by_cases h0 : kk = 0
      · (repeat (first | refine c_seq ?_ | refine c_reg ?_ | refine c_rnil ?_ | refine c_block ?_ | refine c_false ?_ | refine c_op (by first | exact (t_idxE (n := i + kk) (hm := by omega)) | exact t_move | exact t_assign | exact t_add | exact t_sub | exact t_lssF | exact t_eqlF | exact t_load | fail) ?_ | fail))
        refine c_draw0 mixed (by kernel_rfl) ?_
        (repeat (first | refine d_op (by first | exact t_move | exact t_assign | exact t_pickT | exact t_add | exact t_eqlT | fail) ?_ | refine d_no ?_ | fail))
        refine d_nil (q_nil ?_ (by kernel_rfl))
        (repeat (first | refine c_reg ?_ | refine c_rnil ?_ | refine c_inBlock ?_ | refine c_true ?_ | refine (c_st 100001 (t_st 100001)) ?_ | refine (c_st 100002 (t_st 100002)) ?_ | refine c_op (by first | exact (t_mul) | exact (t_idxRN 100001) | exact (t_idxRN 100002) | exact (t_loadRE 100001 (hv := hv1)) | exact t_move | exact t_assign | exact t_add | fail) ?_ | fail))
        refine (ihi (kk + 1, s - (w[i + kk] + 6), (s - (w[i + kk] + 6)) * (s - (w[i + kk] + 6)) + (at26 (dpl m w 0) (i + 1 + kk)).1, ((i + 1 + kk : Nat) : Int)) ⟨by dsimp only; omega, by dsimp only; omega, by dsimp only; omega, fun h => absurd h (Nat.succ_ne_zero kk), fun _ => by dsimp only; omega, by rw [← hinn, if_neg (Nat.succ_ne_zero kk)]⟩ (by dsimp only; omega)).sub ?_
        (repeat' (first | exact trivial | refine ⟨?_, ?_⟩ | fail)) <;> (try first | exact has_rfl rfl | exact has_nil rfl | exact has_nilS rfl | exact has_gr rfl | exact has_nilGo rfl | exact has_int rfl (by first | omega | fail) | fail)
        · exact has_rwE rfl (by rw [List.set_set])
        · exact has_rwE rfl (by rw [List.set_set])
      · have hle := hup.resolve_left h0
        (repeat (first | refine c_seq ?_ | refine c_reg ?_ | refine c_rnil ?_ | refine c_block ?_ | refine c_false ?_ | refine c_op (by first | exact (t_idxE (n := i + kk) (hm := by omega)) | exact t_move | exact t_assign | exact t_add | exact t_sub | exact t_lssF | exact t_eqlF | exact t_load | fail) ?_ | fail))
        refine c_draw0 mixed (by kernel_rfl) ?_
        (repeat (first | refine d_op (by first | exact t_move | exact t_assign | exact t_pickF | exact t_add | exact t_eqlF | fail) ?_ | refine d_yes (by first | exact (t_mul) | exact (t_idxRN 100001) | exact (t_loadRE 100001 (hv := hv1)) | exact (t_loadRE 100001 (hv := hv2)) | exact t_move | exact t_add | exact t_leqT | fail) ?_ | fail))
        refine d_nil (q_nil ?_ (by kernel_rfl))
        (repeat (first | refine c_reg ?_ | refine c_rnil ?_ | refine c_inBlock ?_ | refine c_true ?_ | refine (c_st 100001 (t_st 100001)) ?_ | refine (c_st 100002 (t_st 100002)) ?_ | refine c_op (by first | exact (t_mul) | exact (t_idxRN 100001) | exact (t_idxRN 100002) | exact (t_loadRE 100001 (hv := hv1)) | exact t_move | exact t_assign | exact t_add | fail) ?_ | fail))
        refine (ihi (kk + 1, s - (w[i + kk] + 6), (s - (w[i + kk] + 6)) * (s - (w[i + kk] + 6)) + (at26 (dpl m w 0) (i + 1 + kk)).1, ((i + 1 + kk : Nat) : Int)) ⟨by dsimp only; omega, by dsimp only; omega, by dsimp only; omega, fun h => absurd h (Nat.succ_ne_zero kk), fun _ => by dsimp only; omega, by rw [← hinn, if_neg (Nat.succ_ne_zero kk)]⟩ (by dsimp only; omega)).sub ?_
        (repeat' (first | exact trivial | refine ⟨?_, ?_⟩ | fail)) <;> (try first | exact has_rfl rfl | exact has_nil rfl | exact has_nilS rfl | exact has_gr rfl | exact has_nilGo rfl | exact has_int rfl (by first | omega | fail) | fail)
        · exact has_rwE rfl (by rw [List.set_set])
        · exact has_rwE rfl (by rw [List.set_set])
    · have h0 : kk ≠ 0 := fun h => hup (.inl h)
      have hgt : c < (s - (w[i + kk] + 6)) * (s - (w[i + kk] + 6)) + (at26 (dpl m w 0) (i + 1 + kk)).1 := by
        have : ¬ _ := fun h => hup (.inr h)
        omega
      have hc0 := hc0 h0
      rw [if_neg (by rw [if_neg h0]; omega), if_neg h0, e1] at hinn
      (repeat (first | refine c_seq ?_ | refine c_reg ?_ | refine c_rnil ?_ | refine c_block ?_ | refine c_false ?_ | refine c_op (by first | exact (t_idxE (n := i + kk) (hm := by omega)) | exact t_move | exact t_assign | exact t_add | exact t_sub | exact t_lssF | exact t_eqlF | exact t_load | fail) ?_ | fail))
      refine c_draw0 mixed (by kernel_rfl) ?_
      (repeat (first | refine d_op (by first | exact t_move | exact t_assign | exact t_pickF | exact t_add | exact t_eqlF | fail) ?_ | refine d_yes (by first | exact (t_mul) | exact (t_idxRN 100001) | exact (t_loadRE 100001 (hv := hv1)) | exact (t_loadRE 100001 (hv := hv2)) | exact t_move | exact t_add | exact t_leqF | fail) ?_ | fail))
      refine d_nil (q_nil ?_ (by kernel_rfl))
      (repeat (first | refine c_reg ?_ | refine c_rnil ?_ | refine c_inBlock ?_ | refine c_skip ?_ | refine c_false ?_ | refine c_op (by first | exact t_move | exact t_assign | exact t_add | fail) ?_ | fail))
      exact (ihi (kk + 1, s - (w[i + kk] + 6), c, e) ⟨by dsimp only; omega, by dsimp only; omega, by dsimp only; omega, fun h => absurd h (Nat.succ_ne_zero kk), fun _ => hc0, by rw [← hinn, if_neg (Nat.succ_ne_zero kk)]⟩ (by dsimp only; omega)).sub (by repeat (first | exact trivial | refine ⟨has_rfl rfl, ?_⟩ | fail))
  have hk0 : k = 0 := by omega
  subst hk0
  (repeat (first | refine c_seq ?_ | refine c_reg ?_ | refine c_rnil ?_ | refine c_block ?_ | refine c_exit ?_ | refine c_op (by first | exact t_assign | fail) ?_ | fail))
  refine c_loop (fun x : Nat × List Int × Nat => [(7, .pu (pI w.length)), (9, .pu (pSr b2 (w.length + 1))), (13, .gr eI x.2.1 3 3), (14, .pu (pI x.1)), (100002, .rw b2 2 eI (rowE m w 0) 3)])
    (fun x => x.1 ≤ w.length ∧ w.length < x.1 + x.2.2 ∧ x.2.1.length ≤ x.1 ∧ endsM w m = x.2.1 ++ walkE (dpl m w 0) w.length x.2.2 x.1) (fun x => x.2.2) (0, [], w.length + 1) ⟨Nat.zero_le _, by dsimp only; omega, by simp, rfl⟩ (by repeat (first | exact trivial | refine ⟨has_rfl rfl, ?_⟩ | refine ⟨has_nil rfl, ?_⟩ | fail)) ?_
  rintro ⟨a, out, f⟩ ⟨ha, hf, ho, hends⟩ ih
  dsimp only at ha hf ho hends ih ⊢
  (repeat (first | refine c_seq ?_ | refine c_reg ?_ | refine c_rnil ?_ | refine c_op (by first | exact t_move | exact t_lss | fail) ?_ | fail))
  refine c_if (fun hlt => ?_) fun hge2 => ?_
  · have ha2 : a < w.length := by omega
    obtain ⟨f, rfl⟩ : ∃ g, f = g + 1 := ⟨f - 1, by omega⟩
    have hB := at_best m hm1 hw a ha2
    have hul : (w.drop a).length = w.length - a := List.length_drop
    have h1 := hB.lo
    have h2 := hB.hi
    rw [walkE_cons (by omega)] at hends
    obtain ⟨a', ha'⟩ : ∃ a' : Nat, (at26 (dpl m w 0) a).2 = (a' : Int) := ⟨(at26 (dpl m w 0) a).2.toNat, by omega⟩
    have hv := rowE_get (m := m) (w := w) (k := 0) (j := a) (by omega) (by omega)
    rw [ha'] at hends hv h1 h2
    (repeat (first | refine c_seq ?_ | refine c_reg ?_ | refine c_rnil ?_ | refine c_block ?_ | refine c_inBlock ?_ | refine c_skip ?_ | refine c_op (by first | exact (t_idxRN 100002) | exact (t_loadRE 100002 (hv := hv)) | exact t_moveG | exact t_move | exact t_assignG | exact t_assign | exact t_bs | fail) ?_ | refine c_opW t_app ?_ | fail))
    exact (ih (a', out ++ [(a' : Int)], f) ⟨by dsimp only; omega, by dsimp only; omega, by rw [List.length_append, List.length_singleton]; dsimp only; omega, by rw [hends, List.append_assoc]; rfl⟩ (by dsimp only; omega)).sub (by repeat (first | exact trivial | refine ⟨has_rfl rfl, ?_⟩ | fail))
  · have hae : a = w.length := by omega
    obtain ⟨f, rfl⟩ : ∃ g, f = g + 1 := ⟨f - 1, by omega⟩
    rw [walkE, if_neg (by omega), List.append_nil] at hends
    rw [hends]
    (repeat (first | refine c_seq ?_ | refine c_reg ?_ | refine c_rnil ?_ | refine c_exit ?_ | refine c_op (by first | exact t_moveG | exact t_assignG | exact t_assign | fail) ?_ | fail))
    refine c_ret2 Tryd.func36 rfl ?_
    exact fun h1 h2 => ⟨_, _, rfl, h1, h2⟩
end Go.Proofs.YtedlipgopicijaaDoor
end

section
namespace Go.Proofs.YtedlipgopicijaaDoor
open Go Go.RowKit
set_option maxHeartbeats 4000000 in
theorem endsR_f {w : List Int} {m : Int} : Fn Tryd.prog 60 [pSl eI w, pI m] (pT2 (pSl eI (if chk26 w m = 0 then endsM w m else [])) (pI (chk26 w m))) := by
  refine fn_of ent60 Tryd.func60 rfl Tryd.ntmps60 rfl fun M0 w0 => ?_
  refine c_have 0 (fun h => i_len26 h) fun hl1 => ?_
  by_cases hchk : chk26 w m = 0
  case neg =>
    rw [if_neg hchk]
    (repeat (first | refine c_seq ?_ | refine c_reg ?_ | refine c_rnil ?_ | refine c_true ?_ | refine c_op (by first | exact t_call (h := regular_f) | exact t_move | exact t_assign | exact t_neqT | fail) ?_ | fail))
    refine c_ret2 Tryd.func60 rfl ?_
    exact fun h1 h2 => ⟨_, _, rfl, by rw [show _ = _ from h1]; exact SlOf.nil _ _ _, h2⟩
  rw [if_pos hchk, hchk]
  obtain ⟨hn, hm1, hm2, hw⟩ := chk26_ok hchk
  (repeat (first | refine c_seq ?_ | refine c_reg ?_ | refine c_rnil ?_ | refine c_skip ?_ | refine c_false ?_ | refine c_op (by first | exact t_call (h := regular_f) | exact t_move | exact t_assign | exact t_add | exact t_neqF | exact t_len | fail) ?_ | fail))
  refine c_op (t_mk 1) ?_
  (repeat (first | refine c_seq ?_ | refine c_reg ?_ | refine c_rnil ?_ | refine c_op (by first | exact t_move | exact t_assignO | exact t_add | fail) ?_ | fail))
  refine c_op (t_mk 2) ?_
  (repeat (first | refine c_seq ?_ | refine c_reg ?_ | refine c_rnil ?_ | refine c_block ?_ | refine c_op (by first | exact t_move | exact t_assignO | exact t_assign | exact t_sub | fail) ?_ | fail))
  refine c_row 8 100001 fun b1 => c_row 9 100002 fun b2 => ?_
  refine c_loop (fun k : Nat => [(0, .pu (pSl eI w)), (1, .pu (pI m)), (7, .pu (pI w.length)), (8, .pu (pSr b1 (w.length + 1))), (9, .pu (pSr b2 (w.length + 1))), (10, .pu (pI ((k : Int) - 1))), (100001, .rw b1 1 eI (rowC m w k) 3), (100002, .rw b2 2 eI (rowE m w k) 3)])
    (fun k => k ≤ w.length) (fun k => k) w.length (Nat.le_refl _) ?_ fun k hk ih => ?_
  · (repeat' (first | exact trivial | refine ⟨?_, ?_⟩ | fail)) <;> (try first | exact has_rfl rfl | exact has_nil rfl | exact has_nilS rfl | exact has_gr rfl | exact has_nilGo rfl | exact has_int rfl (by first | omega | fail) | fail)
    · exact has_pu rfl (by simp [pSr])
    · exact has_pu rfl (by simp [pSr])
    · exact has_rwE rfl (by rw [rowC_end]; congr 1)
    · exact has_rwE rfl (by rw [rowE_end]; congr 1)
  (repeat (first | refine c_seq ?_ | refine c_reg ?_ | refine c_rnil ?_ | refine c_op (by first | exact t_move | exact t_geq | fail) ?_ | fail))
  refine c_if (fun hlt => ?_) fun hge => ?_
  · obtain ⟨i, rfl⟩ : ∃ i, k = i + 1 := ⟨k - 1, by omega⟩
    have hi : i < w.length := by omega
    have hCl := rowC_len (m := m) (w := w) (k := i + 1) hk
    have hEl := rowE_len (m := m) (w := w) (k := i + 1) hk
    refine c_to 10 (.pu (pI i)) (has_int rfl (by omega)) ?_
    (repeat (first | refine c_seq ?_ | refine c_reg ?_ | refine c_rnil ?_ | refine c_block ?_ | refine c_skip ?_ | refine (c_st 100001 (t_st 100001)) ?_ | refine c_op (by first | exact (t_idxRN 100001) | exact t_move | exact t_assign | exact t_add | fail) ?_ | fail))
    refine c_loop (fun x : Nat × Int × Int × Int => [(0, .pu (pSl eI w)), (1, .pu (pI m)), (7, .pu (pI w.length)), (8, .pu (pSr b1 (w.length + 1))), (9, .pu (pSr b2 (w.length + 1))), (10, .pu (pI i)), (11, .pu (pI x.2.1)), (12, .pu (pI (i + 1 + x.1 : Nat))),
        (100001, .rw b1 1 eI ((rowC m w (i + 1)).set i x.2.2.1) 3), (100002, .rw b2 2 eI ((rowE m w (i + 1)).set i x.2.2.2) 3)])
      (fun x => i + x.1 ≤ w.length ∧ x.2.1 ≤ m + 6 ∧ 0 ≤ x.2.1 ∧ (x.1 = 0 → x.2.1 = m + 6 ∧ x.2.2.1 = -1) ∧ (x.1 ≠ 0 → 0 ≤ x.2.2.1) ∧
        (i + x.1 < w.length → inn m ((w.drop i).drop x.1) ((dpl m (w.drop (i + 1)) (i + 1 : Nat)).drop x.1) (i + 1 + x.1 : Nat) x.2.1 x.2.2.1 x.2.2.2 = at26 (dpl m w 0) i) ∧ (i + x.1 = w.length → (x.2.2.1, x.2.2.2) = at26 (dpl m w 0) i))
      (fun x => w.length + 1 - x.1) (0, m + 6, -1, 0) ⟨Nat.le_of_lt hi, Int.le_refl _, by dsimp only; omega, fun _ => ⟨rfl, rfl⟩, fun h => absurd rfl h, fun _ => (at_inn hi).symm, fun h => absurd h (Nat.ne_of_lt hi)⟩ ?_ ?_
    · (repeat' (first | exact trivial | refine ⟨?_, ?_⟩ | fail)) <;> (try first | exact has_rfl rfl | exact has_nil rfl | exact has_nilS rfl | exact has_gr rfl | exact has_nilGo rfl | exact has_int rfl (by first | omega | fail) | fail)
      · exact has_rwE rfl (set_same (rowE_zero hi)).symm
    rintro ⟨kk, s, c, e⟩ ⟨hkk, hs1, hs2, hs3, hc0, hinn, hfin⟩ ihi
    dsimp only at hkk hs1 hs2 hs3 hc0 hinn hfin ihi ⊢
    by_cases hover : i + kk = w.length
    · have hfin := hfin hover
      (repeat (first | refine c_seq ?_ | refine c_reg ?_ | refine c_rnil ?_ | refine c_inBlock ?_ | refine c_exit ?_ | refine c_false ?_ | refine c_op (by first | exact t_move | exact t_assign | exact t_sub | exact t_leqF | fail) ?_ | fail))
      refine (ih i (by omega) (by omega)).sub ?_
      (repeat' (first | exact trivial | refine ⟨?_, ?_⟩ | fail)) <;> (try first | exact has_rfl rfl | exact has_nil rfl | exact has_nilS rfl | exact has_gr rfl | exact has_nilGo rfl | exact has_int rfl (by first | omega | fail) | fail)
      · exact has_rwE rfl (by rw [← rowC_set hi, ← hfin])
      · exact has_rwE rfl (by rw [← rowE_set hi, ← hfin])
    have hkk : i + kk < w.length := by omega
    have hinn := hinn hkk
    clear hfin
    have hx := hw _ (List.getElem_mem hkk)
    rw [inn_step hkk] at hinn
    have hv1 : ((rowC m w (i + 1)).set i c)[i + 1 + kk]? = some (at26 (dpl m w 0) (i + 1 + kk)).1 := by
      rw [List.getElem?_set_ne (by omega)]
      exact rowC_get (by omega) (by omega)
    have hv2 : ((rowC m w (i + 1)).set i c)[i]? = some c := List.getElem?_set_self (by omega)
    have hbd := at_bd ⟨hm1, hm2⟩ hw 500 (i + 1 + kk) (by omega) (by omega)
    by_cases hneg : s - (w[i + kk] + 6) < 0
    · rw [if_pos hneg] at hinn
      have hk0 : kk ≠ 0 := fun h => by have := hs3 h; omega
      (repeat (first | refine c_seq ?_ | refine c_reg ?_ | refine c_rnil ?_ | refine c_block ?_ | refine c_inBlock ?_ | refine c_exit ?_ | refine c_skip ?_ | refine c_true ?_ | refine c_op (by first | exact (t_idxE (n := i + kk) (hm := by omega)) | exact t_move | exact t_assign | exact t_sub | exact t_lssT | exact t_leqT | exact t_load | fail) ?_ | fail))
      refine (ih i (by omega) (by omega)).sub ?_
      (repeat' (first | exact trivial | refine ⟨?_, ?_⟩ | fail)) <;> (try first | exact has_rfl rfl | exact has_nil rfl | exact has_nilS rfl | exact has_gr rfl | exact has_nilGo rfl | exact has_int rfl (by first | omega | fail) | fail)
      · exact has_rwE rfl (by rw [← rowC_set hi, ← hinn])
      · exact has_rwE rfl (by rw [← rowE_set hi, ← hinn])
    rw [if_neg hneg] at hinn
    have es : s - 6 - w[i + kk] = s - (w[i + kk] + 6) := by omega
    have hsq0 := sq_nonneg (s - 6 - w[i + kk])
    have hsq1 : (s - 6 - w[i + kk]) * (s - 6 - w[i + kk]) ≤ 4024036 := Int.le_trans (Int.mul_le_mul (show _ ≤ (2006 : Int) by omega) (show _ ≤ (2006 : Int) by omega) (by omega) (by omega)) (by decide)
    have e1 : ((i + 1 + kk : Nat) : Int) + 1 = ((i + 1 + (kk + 1) : Nat) : Int) := by omega
    by_cases hend : i + kk + 1 = w.length
    · rw [if_pos hend] at hinn
      have hup : c < 0 ∨ 0 ≤ c := by omega
      rcases hup with hup | hup
      · (repeat (first | refine c_seq ?_ | refine c_reg ?_ | refine c_rnil ?_ | refine c_block ?_ | refine c_inBlock ?_ | refine c_skip ?_ | refine c_true ?_ | refine c_false ?_ | refine c_no ?_ | refine (c_st 100001 (t_st 100001)) ?_ | refine (c_st 100002 (t_st 100002)) ?_ | refine c_op (by first | exact (t_mul) | exact (t_idxE (n := i + kk) (hm := by omega)) | exact (t_idxRN 100001) | exact (t_idxRN 100002) | exact (t_loadRE 100001 (hv := hv1)) | exact (t_loadRE 100001 (hv := hv2)) | exact t_move | exact t_assign | exact t_pickT | exact t_add | exact t_sub | exact t_lssT | exact t_lssF | exact t_leqT | exact t_eqlT | exact t_load | fail) ?_ | fail))
        refine (ihi (kk + 1, s - 6 - w[i + kk], 0, ((i + 1 + kk : Nat) : Int)) ⟨by dsimp only; omega, by dsimp only; omega, by dsimp only; omega, fun h => absurd h (Nat.succ_ne_zero kk), fun _ => Int.le_refl _, fun h => by dsimp only at h; omega, fun _ => hinn⟩ (by dsimp only; omega)).sub ?_
        (repeat' (first | exact trivial | refine ⟨?_, ?_⟩ | fail)) <;> (try first | exact has_rfl rfl | exact has_nil rfl | exact has_nilS rfl | exact has_gr rfl | exact has_nilGo rfl | exact has_int rfl (by first | omega | fail) | fail)
        · exact has_rwE rfl (by rw [List.set_set])
        · exact has_rwE rfl (by rw [List.set_set])
      · (repeat (first | refine c_seq ?_ | refine c_reg ?_ | refine c_rnil ?_ | refine c_block ?_ | refine c_inBlock ?_ | refine c_skip ?_ | refine c_true ?_ | refine c_false ?_ | refine c_yes ?_ | refine (c_st 100001 (t_st 100001)) ?_ | refine (c_st 100002 (t_st 100002)) ?_ | refine c_op (by first | exact (t_mul) | exact (t_idxE (n := i + kk) (hm := by omega)) | exact (t_idxRN 100001) | exact (t_idxRN 100002) | exact (t_loadRE 100001 (hv := hv1)) | exact (t_loadRE 100001 (hv := hv2)) | exact t_move | exact t_assign | exact t_pickF | exact t_add | exact t_sub | exact t_lssF | exact t_leqT | exact t_eqlT | exact t_load | fail) ?_ | fail))
        refine (ihi (kk + 1, s - 6 - w[i + kk], 0, ((i + 1 + kk : Nat) : Int)) ⟨by dsimp only; omega, by dsimp only; omega, by dsimp only; omega, fun h => absurd h (Nat.succ_ne_zero kk), fun _ => Int.le_refl _, fun h => by dsimp only at h; omega, fun _ => hinn⟩ (by dsimp only; omega)).sub ?_
        (repeat' (first | exact trivial | refine ⟨?_, ?_⟩ | fail)) <;> (try first | exact has_rfl rfl | exact has_nil rfl | exact has_nilS rfl | exact has_gr rfl | exact has_nilGo rfl | exact has_int rfl (by first | omega | fail) | fail)
        · exact has_rwE rfl (by rw [List.set_set])
        · exact has_rwE rfl (by rw [List.set_set])
    rw [if_neg hend, ← es] at hinn
    by_cases hup : c < 0 ∨ (s - 6 - w[i + kk]) * (s - 6 - w[i + kk]) + (at26 (dpl m w 0) (i + 1 + kk)).1 ≤ c
    · rw [if_pos hup, e1] at hinn
      by_cases h0 : c < 0
      · (repeat (first | refine c_seq ?_ | refine c_reg ?_ | refine c_rnil ?_ | refine c_block ?_ | refine c_inBlock ?_ | refine c_skip ?_ | refine c_true ?_ | refine c_false ?_ | refine c_no ?_ | refine (c_st 100001 (t_st 100001)) ?_ | refine (c_st 100002 (t_st 100002)) ?_ | refine c_op (by first | exact (t_mul) | exact (t_idxE (n := i + kk) (hm := by omega)) | exact (t_idxRN 100001) | exact (t_idxRN 100002) | exact (t_loadRE 100001 (hv := hv1)) | exact (t_loadRE 100001 (hv := hv2)) | exact t_move | exact t_assign | exact t_pickT | exact t_add | exact t_sub | exact t_lssT | exact t_lssF | exact t_leqT | exact t_eqlF | exact t_load | fail) ?_ | fail))
        refine (ihi (kk + 1, s - 6 - w[i + kk], (s - 6 - w[i + kk]) * (s - 6 - w[i + kk]) + (at26 (dpl m w 0) (i + 1 + kk)).1, ((i + 1 + kk : Nat) : Int)) ⟨by dsimp only; omega, by dsimp only; omega, by dsimp only; omega, fun h => absurd h (Nat.succ_ne_zero kk), fun _ => by dsimp only; omega, fun _ => hinn, fun h => absurd h (by dsimp only; omega)⟩ (by dsimp only; omega)).sub ?_
        (repeat' (first | exact trivial | refine ⟨?_, ?_⟩ | fail)) <;> (try first | exact has_rfl rfl | exact has_nil rfl | exact has_nilS rfl | exact has_gr rfl | exact has_nilGo rfl | exact has_int rfl (by first | omega | fail) | fail)
        · exact has_rwE rfl (by rw [List.set_set])
        · exact has_rwE rfl (by rw [List.set_set])
      · have hle := hup.resolve_left h0
        (repeat (first | refine c_seq ?_ | refine c_reg ?_ | refine c_rnil ?_ | refine c_block ?_ | refine c_inBlock ?_ | refine c_skip ?_ | refine c_true ?_ | refine c_false ?_ | refine c_yes ?_ | refine (c_st 100001 (t_st 100001)) ?_ | refine (c_st 100002 (t_st 100002)) ?_ | refine c_op (by first | exact (t_mul) | exact (t_idxE (n := i + kk) (hm := by omega)) | exact (t_idxRN 100001) | exact (t_idxRN 100002) | exact (t_loadRE 100001 (hv := hv1)) | exact (t_loadRE 100001 (hv := hv2)) | exact t_move | exact t_assign | exact t_pickF | exact t_add | exact t_sub | exact t_lssF | exact t_leqT | exact t_eqlF | exact t_load | fail) ?_ | fail))
        refine (ihi (kk + 1, s - 6 - w[i + kk], (s - 6 - w[i + kk]) * (s - 6 - w[i + kk]) + (at26 (dpl m w 0) (i + 1 + kk)).1, ((i + 1 + kk : Nat) : Int)) ⟨by dsimp only; omega, by dsimp only; omega, by dsimp only; omega, fun h => absurd h (Nat.succ_ne_zero kk), fun _ => by dsimp only; omega, fun _ => hinn, fun h => absurd h (by dsimp only; omega)⟩ (by dsimp only; omega)).sub ?_
        (repeat' (first | exact trivial | refine ⟨?_, ?_⟩ | fail)) <;> (try first | exact has_rfl rfl | exact has_nil rfl | exact has_nilS rfl | exact has_gr rfl | exact has_nilGo rfl | exact has_int rfl (by first | omega | fail) | fail)
        · exact has_rwE rfl (by rw [List.set_set])
        · exact has_rwE rfl (by rw [List.set_set])
    · rw [if_neg hup, e1] at hinn
      have h1 : ¬ c < 0 := fun h => hup (.inl h)
      have h2 : c < (s - 6 - w[i + kk]) * (s - 6 - w[i + kk]) + (at26 (dpl m w 0) (i + 1 + kk)).1 := by
        have : ¬ _ := fun h => hup (.inr h)
        omega
      (repeat (first | refine c_seq ?_ | refine c_reg ?_ | refine c_rnil ?_ | refine c_block ?_ | refine c_inBlock ?_ | refine c_skip ?_ | refine c_true ?_ | refine c_false ?_ | refine c_yes ?_ | refine c_op (by first | exact (t_mul) | exact (t_idxE (n := i + kk) (hm := by omega)) | exact (t_idxRN 100001) | exact (t_loadRE 100001 (hv := hv1)) | exact (t_loadRE 100001 (hv := hv2)) | exact t_move | exact t_assign | exact t_pickF | exact t_add | exact t_sub | exact t_lssF | exact t_leqT | exact t_leqF | exact t_eqlF | exact t_load | fail) ?_ | fail))
      exact (ihi (kk + 1, s - 6 - w[i + kk], c, e) ⟨by dsimp only; omega, by dsimp only; omega, by dsimp only; omega, fun h => absurd h (Nat.succ_ne_zero kk), fun _ => by dsimp only; omega, fun _ => hinn, fun h => absurd h (by dsimp only; omega)⟩ (by dsimp only; omega)).sub (by repeat (first | exact trivial | refine ⟨has_rfl rfl, ?_⟩ | fail))
  have hk0 : k = 0 := by omega
  subst hk0
  (repeat (first | refine c_seq ?_ | refine c_reg ?_ | refine c_rnil ?_ | refine c_block ?_ | refine c_exit ?_ | refine c_op (by first | exact t_assign | fail) ?_ | fail))
  refine c_loop (fun x : Nat × List Int × Nat => [(7, .pu (pI w.length)), (9, .pu (pSr b2 (w.length + 1))), (14, .gr eI x.2.1 3 3), (15, .pu (pI x.1)), (100002, .rw b2 2 eI (rowE m w 0) 3)])
    (fun x => x.1 ≤ w.length ∧ w.length < x.1 + x.2.2 ∧ x.2.1.length ≤ x.1 ∧ endsM w m = x.2.1 ++ walkE (dpl m w 0) w.length x.2.2 x.1) (fun x => x.2.2) (0, [], w.length + 1) ⟨Nat.zero_le _, by dsimp only; omega, by simp, rfl⟩ (by repeat (first | exact trivial | refine ⟨has_rfl rfl, ?_⟩ | refine ⟨has_nil rfl, ?_⟩ | fail)) ?_
  rintro ⟨a, out, f⟩ ⟨ha, hf, ho, hends⟩ ih
  dsimp only at ha hf ho hends ih ⊢
  (repeat (first | refine c_seq ?_ | refine c_reg ?_ | refine c_rnil ?_ | refine c_op (by first | exact t_move | exact t_lss | fail) ?_ | fail))
  refine c_if (fun hlt => ?_) fun hge2 => ?_
  · have ha2 : a < w.length := by omega
    obtain ⟨f, rfl⟩ : ∃ g, f = g + 1 := ⟨f - 1, by omega⟩
    have hB := at_best m hm1 hw a ha2
    have hul : (w.drop a).length = w.length - a := List.length_drop
    have h1 := hB.lo
    have h2 := hB.hi
    rw [walkE_cons (by omega)] at hends
    obtain ⟨a', ha'⟩ : ∃ a' : Nat, (at26 (dpl m w 0) a).2 = (a' : Int) := ⟨(at26 (dpl m w 0) a).2.toNat, by omega⟩
    have hv := rowE_get (m := m) (w := w) (k := 0) (j := a) (by omega) (by omega)
    rw [ha'] at hends hv h1 h2
    (repeat (first | refine c_seq ?_ | refine c_reg ?_ | refine c_rnil ?_ | refine c_block ?_ | refine c_inBlock ?_ | refine c_skip ?_ | refine c_op (by first | exact (t_idxRN 100002) | exact (t_loadRE 100002 (hv := hv)) | exact t_moveG | exact t_move | exact t_assignG | exact t_assign | exact t_bs | fail) ?_ | refine c_opW t_app ?_ | fail))
    exact (ih (a', out ++ [(a' : Int)], f) ⟨by dsimp only; omega, by dsimp only; omega, by rw [List.length_append, List.length_singleton]; dsimp only; omega, by rw [hends, List.append_assoc]; rfl⟩ (by dsimp only; omega)).sub (by repeat (first | exact trivial | refine ⟨has_rfl rfl, ?_⟩ | fail))
  · have hae : a = w.length := by omega
    obtain ⟨f, rfl⟩ : ∃ g, f = g + 1 := ⟨f - 1, by omega⟩
    rw [walkE, if_neg (by omega), List.append_nil] at hends
    rw [hends]
    (repeat (first | refine c_seq ?_ | refine c_reg ?_ | refine c_rnil ?_ | refine c_exit ?_ | refine c_op (by first | exact t_moveG | exact t_assignG | exact t_assign | fail) ?_ | fail))
    refine c_ret2 Tryd.func60 rfl ?_
    exact fun h1 h2 => ⟨_, _, rfl, h1, h2⟩
end Go.Proofs.YtedlipgopicijaaDoor
end

section
namespace Go.Proofs.YtedlipgopicijaaDoor
open Go Go.RowKit
class ICc (P : Program) (t : TypeId) (k : outParam IntKind) : Prop where
  out : P.underlying t = some (.int k)
instance : ICc Tryd.prog 3 .i64 := ⟨Tryd.underlying3⟩
instance : ICc Tryd.prog 86 .u64 := ⟨Tryd.underlying86⟩
instance : ICc Tryd.prog 123 .u64 := ⟨Tryd.underlying123⟩
theorem wrap_u64 {n : Int} (h : 0 ≤ n ∧ n ≤ 18446744073709551615) : IntKind.wrap .u64 n = n := by
  have e : n % 18446744073709551616 = n := Int.emod_eq_of_lt h.1 (by omega)
  simp [IntKind.wrap, IntKind.bits, IntKind.signed, e]
theorem wrap_i64 {n : Int} (h : 0 ≤ n ∧ n ≤ 9223372036854775807) : IntKind.wrap .i64 n = n := by
  have e : n % 18446744073709551616 = n := Int.emod_eq_of_lt h.1 (by omega)
  simp [IntKind.wrap, IntKind.bits, IntKind.signed, e]
  omega
theorem rngU {n : Int} : Rng .u64 n := ⟨(fun h => by cases h), (fun h => by cases h)⟩
section
variable {P : Program} {N : Nat} {G : TF} {d : Option Tmp} {ty : TypeId} {pos : String} {aft : Array Edge} {g : Option (Nat × Bool)} {x y : Operand} {m n : Int} {t u : TypeId}
theorem t_cvU {k : IntKind} (hx : topP G x = some (pK k n) := by rfl) (ht : ICc P u .u64 := by infer_instance) (hs : ICc P t k := by infer_instance) (h : 0 ≤ n ∧ n ≤ 9223372036854775807 := by omega) : TOp P N ⟨d, .convert t u x, ty, pos, aft, g⟩ G [] (.pu (pK .u64 n)) := .pure [x] (by simp [Op.operands]) fun {B M w fr} hf => by
  obtain ⟨_, h0, rfl, _⟩ := hf.op hx (by simp)
  have hk : P.intKind u = .u64 := by simp [Program.intKind, ht.out]
  have hrun := run_convert_int (P := P) w t u k n (by rw [hs.out]; rfl) (by rw [hk]; exact ht.out)
  rw [hk, wrap_u64 (by omega)] at hrun
  exact OP.val (fun a ha => by simp only [execOp, ha.eval h0, Sem.run_bind, hrun]; rfl) ⟨rfl, rfl, rngU⟩
theorem t_cvI {k : IntKind} (hx : topP G x = some (pK k n) := by rfl) (ht : ICc P u .i64 := by infer_instance) (hs : ICc P t k := by infer_instance) (h : 0 ≤ n ∧ n ≤ 9223372036854775807 := by omega) : TOp P N ⟨d, .convert t u x, ty, pos, aft, g⟩ G [] (.pu (pK .i64 n)) := .pure [x] (by simp [Op.operands]) fun {B M w fr} hf => by
  obtain ⟨_, h0, rfl, _⟩ := hf.op hx (by simp)
  have hk : P.intKind u = .i64 := by simp [Program.intKind, ht.out]
  have hrun := run_convert_int (P := P) w t u k n (by rw [hs.out]; rfl) (by rw [hk]; exact ht.out)
  rw [hk, wrap_i64 h] at hrun
  exact OP.val (fun a ha => by simp only [execOp, ha.eval h0, Sem.run_bind, hrun]; rfl) ⟨rfl, rfl, rng64 (by omega)⟩
theorem t_mulU (hx : topP G x = some (pK .u64 m) := by rfl) (hy : topP G y = some (pK .u64 n) := by rfl) (r : Int) (he : m * n = r) (hr : 0 ≤ r ∧ r ≤ 18446744073709551615) : TOp P N ⟨d, .binOp .mul t x y u, ty, pos, aft, g⟩ G [] (.pu (pK .u64 r)) := .pure [x, y] (by simp [Op.operands]) fun hf => by
  obtain ⟨_, h0, rfl, _⟩ := hf.op hx (by simp)
  obtain ⟨_, h1, rfl, _⟩ := hf.op hy (by simp)
  exact OP.val (v := .int .u64 r) (fun a ha => by simp [execOp, ha.eval h0, ha.eval h1, eqGuard_at_int, binOp_mul, Op.intArith, he, wrap_u64 hr]) ⟨rfl, rfl, rngU⟩
theorem t_addU (hx : topP G x = some (pK .u64 m) := by rfl) (hy : topP G y = some (pK .u64 n) := by rfl) (hr : 0 ≤ m + n ∧ m + n ≤ 18446744073709551615 := by omega) : TOp P N ⟨d, .binOp .add t x y u, ty, pos, aft, g⟩ G [] (.pu (pK .u64 (m + n))) := .pure [x, y] (by simp [Op.operands]) fun hf => by
  obtain ⟨_, h0, rfl, _⟩ := hf.op hx (by simp)
  obtain ⟨_, h1, rfl, _⟩ := hf.op hy (by simp)
  exact OP.val (v := .int .u64 (m + n)) (fun a ha => by simp [execOp, ha.eval h0, ha.eval h1, eqGuard_at_int, binOp_add, Op.intArith, wrap_u64 hr]) ⟨rfl, rfl, rngU⟩
theorem and_mask {n : Int} (h : 0 ≤ n ∧ n ≤ 4294967295) : (((BitVec.ofInt 64 n) &&& (BitVec.ofInt 64 4294967295)).toNat : Int) = n := by
  obtain ⟨k, rfl⟩ : ∃ k : Nat, n = k := ⟨n.toNat, by omega⟩
  have e1 : (BitVec.ofInt 64 (k : Int)).toNat = k := by
    rw [BitVec.toNat_ofInt]
    have : ((k : Int) % ((2 ^ 64 : Nat) : Int)) = k := Int.emod_eq_of_lt (by omega) (by omega)
    rw [this, Int.toNat_natCast]
  have e2 : (BitVec.ofInt 64 4294967295).toNat = 2 ^ 32 - 1 := by rfl
  rw [BitVec.toNat_and, e1, e2, Nat.and_two_pow_sub_one_eq_mod, Nat.mod_eq_of_lt (by omega)]
theorem t_mask (hx : topP G x = some (pK .u64 n) := by rfl) (hy : topP G y = some (pK .u64 4294967295) := by rfl) (h : 0 ≤ n ∧ n ≤ 4294967295 := by omega) : TOp P N ⟨d, .binOp .and t x y u, ty, pos, aft, g⟩ G [] (.pu (pK .u64 n)) := .pure [x, y] (by simp [Op.operands]) fun hf => by
  obtain ⟨_, h0, rfl, _⟩ := hf.op hx (by simp)
  obtain ⟨_, h1, rfl, _⟩ := hf.op hy (by simp)
  have hm : (((BitVec.ofInt IntKind.u64.bits n) &&& (BitVec.ofInt IntKind.u64.bits 4294967295)).toNat : Int) = n := and_mask h
  exact OP.val (v := .int .u64 n) (fun a ha => by
    simp only [execOp, ha.eval h0, ha.eval h1, eqGuard_at_int, binOp_and, Op.intBits]
    simp only [hm, wrap_u64 (show 0 ≤ n ∧ n ≤ 18446744073709551615 by omega)]
    rfl) ⟨rfl, rfl, rngU⟩
theorem t_shr0 (hx : topP G x = some (pK .u64 n) := by rfl) (hy : topP G y = some (pK .u64 32) := by rfl) (h : 0 ≤ n ∧ n ≤ 4294967295 := by omega) : TOp P N ⟨d, .binOp .shr t x y u, ty, pos, aft, g⟩ G [] (.pu (pK .u64 0)) := .pure [x, y] (by simp [Op.operands]) fun hf => by
  obtain ⟨_, h0, rfl, _⟩ := hf.op hx (by simp)
  obtain ⟨_, h1, rfl, _⟩ := hf.op hy (by simp)
  have e : n.fdiv 4294967296 = 0 := by
    rw [Int.fdiv_eq_ediv_of_nonneg _ (by omega)]
    exact Int.ediv_eq_zero_of_lt h.1 (by omega)
  exact OP.val (v := .int .u64 0) (fun a ha => by simp [execOp, ha.eval h0, ha.eval h1, eqGuard_at_int, binOp_shr, Op.shift, IntKind.bits, e]) ⟨rfl, rfl, rngU⟩
end
theorem mul64_f {k : Int} (h : 0 ≤ k ∧ k ≤ 1000000) : Fn Tryd.prog 90 [pK .u64 1, pK .u64 k] (pT2 (pK .u64 0) (pK .u64 k)) := by
  refine fn_of ent90 Tryd.func90 rfl Tryd.ntmps90 rfl fun M0 w0 => ?_
  (repeat (first | refine c_seq ?_ | refine c_reg ?_ | refine c_rnil ?_ | refine c_op (by first | exact (t_mask) | exact (t_shr0) | exact (t_addU) | exact (t_mulU (r := k) (he := by omega) (hr := by omega)) | exact (t_mulU (r := 0) (he := by omega) (hr := by omega)) | exact t_move | exact t_assign | fail) ?_ | fail))
  refine c_ret2 Tryd.func90 rfl ?_
  exact fun h1 h2 => ⟨_, _, rfl, h1, h2⟩
theorem mul_f {k : Int} (h : 0 ≤ k ∧ k ≤ 1000000) : Fn Tryd.prog 74 [pK .u64 1, pK .u64 k] (pT2 (pK .u64 0) (pK .u64 k)) := by
  refine fn_of ent74 Tryd.func74 rfl Tryd.ntmps74 rfl fun M0 w0 => ?_
  (repeat (first | refine c_seq ?_ | refine c_reg ?_ | refine c_rnil ?_ | refine c_skip ?_ | refine c_false ?_ | refine c_op (by first | exact t_call (h := (mul64_f h)) | exact t_move | exact t_assign | exact t_ext0 | exact t_ext1 | fail) ?_ | fail))
  refine c_ret2 Tryd.func74 rfl ?_
  exact fun h1 h2 => ⟨_, _, rfl, h1, h2⟩
end Go.Proofs.YtedlipgopicijaaDoor
end

section
namespace Go.Proofs.YtedlipgopicijaaDoor
open Go Go.RowKit
theorem cssI {M : Mut} {w : World} : ∀ {l : List Int} {css : List Value}, CSS eI M w css l ↔ css = l.map (.int .i64) ∧ ∀ n ∈ l, I64 n
  | [], css => by simp [CSS]
  | n :: l, css => by
    simp only [CSS]
    constructor
    · rintro ⟨a, b, rfl, ⟨rfl, h, _⟩, h2⟩
      obtain ⟨rfl, h3⟩ := cssI.1 h2
      exact ⟨rfl, fun m hm => by
        rcases List.mem_cons.1 hm with rfl | hm
        · exact h rfl
        · exact h3 m hm⟩
    · rintro ⟨rfl, h⟩
      exact ⟨[.int .i64 n], l.map (.int .i64), rfl, ⟨rfl, fun _ => h n (by simp), fun e => by cases e⟩, cssI.2 ⟨rfl, fun m hm => h m (by simp [hm])⟩⟩
def over (l : List Int) (off : Nat) (s : List Int) : List Int := l.take off ++ s ++ l.drop (off + s.length)
theorem over_len {l s : List Int} {off : Nat} (h : off + s.length ≤ l.length) : (over l off s).length = l.length := by
  unfold over
  simp only [List.length_append, List.length_take, List.length_drop]
  omega
section
variable {P : Program} {N : Nat} {fr : Fr} {w : World} {Ψ : Value → World → Prop} {d : Option Tmp} {ty : TypeId} {pos : String} {aft : Array Edge} {g : Option (Nat × Bool)}
theorem op_copyI {M : Mut} {w0 : World} {b tag off m cap : Nat} {l s : List Int} {t e : TypeId} {x y : Operand} {a2 : Option Addr} {len cap2 k : Nat} (ht : P.underlying t = some (.slice e)) (hE : TE P e eI)
    (hx : opv fr x = some (.slice (some ⟨b, off, none⟩) m cap)) (hy : opv fr y = some (.slice a2 len cap2)) (hk : min m len = k) (hs : (Builtin.firstCells 1 k (.slice a2 len cap2)).run P w = .ok (s.map (Value.int .i64)).toArray w) (_hsk : s.length = k)
    (hI : ∀ n ∈ s, I64 n) (hB : w0.heap.size ≤ b) (hb : ∃ css, CSS eI M w css l ∧ Box M w b tag css e) (hf : off + s.length ≤ l.length)
    (h : ∀ w', (∃ css, CSS eI M w' css (over l off s) ∧ Box M w' b tag css e) → St w0.heap.size (some tag) M w M w' → Ψ (.int .i64 k) w') :
    OP P N ⟨d, .call ⟨.builtin .copy, #[x, y], #[t, t]⟩, ty, pos, aft, g⟩ fr w Ψ := by
  obtain ⟨z, hz, hT⟩ := hE
  obtain ⟨css, c1, hb⟩ := hb
  obtain ⟨rfl, hI2⟩ := cssI.1 c1
  have hst := run_storeCells_at P b off e (s.map (Value.int .i64)) 0 (l.map (Value.int .i64)).toArray w hb.heap (by simpa using hf) (fun v hv => by
    obtain ⟨n, _, rfl⟩ := List.mem_map.1 hv
    rfl)
  have hM : M = M.set b (some (0, tag)) := by
    funext k
    unfold Mut.set
    split
    · rename_i hk; subst hk; exact hb.mark
    · rfl
  have hcur : (List.take (off + 0) (l.map (Value.int .i64)).toArray.toList ++ s.map (Value.int .i64) ++ List.drop (off + 0 + (s.map (Value.int .i64)).length) (l.map (Value.int .i64)).toArray.toList) = (over l off s).map (Value.int .i64) := by
    unfold over
    simp
  rw [hcur] at hst
  have hS : St w0.heap.size (some tag) M w M (w.setRow b ((over l off s).map (Value.int .i64)).toArray) := by
    have := St.write (M := M) (w := w) (w' := w.setRow b ((over l off s).map (Value.int .i64)).toArray) (k := 0) (k' := 0) hB hb.lt hb.mark rfl (Nat.le_refl _) rfl rfl rfl (by simp [World.setRow]) (fun k hk => setRow_other w b k _ hk) (fun off ho => by omega)
    rwa [← hM] at this
  refine OP.val (v := .int .i64 k) (w' := w.setRow b ((over l off s).map (Value.int .i64)).toArray) (fun a ha => ?_) (h _ ⟨_, cssI.2 ⟨rfl, fun n hn => ?_⟩, ⟨setRow_heap w b _ _ e _ hb.heap, hb.mark⟩⟩ hS)
  · simp only [execOp, resolve, invoke, builtin, Sem.run_bind, Sem.run_pure, Result.andThen_ok, List.map_toArray, List.map_cons, List.map_nil, ha.eval hx, ha.eval hy]
    have hsz : (sizeOf e).run P w = .ok 1 w := hT.run_sizeOf (w := w)
    have hk2 : len.min m = k := by rw [show len.min m = min len m from rfl, Nat.min_comm]; exact hk
    simp [Builtin.copy_, run_underlying ht, Builtin.lenOf, hk2, hsz, hs, hst, goInt]
  · unfold over at hn
    rcases List.mem_append.1 hn with hn | hn
    · rcases List.mem_append.1 hn with hn | hn
      · exact hI2 n (List.mem_of_mem_take hn)
      · exact hI n hn
    · exact hI2 n (List.mem_of_mem_drop hn)
end
section
variable {P : Program} {N : Nat} {G : TF} {d : Option Tmp} {ty : TypeId} {pos : String} {aft : Array Edge} {g : Option (Nat × Bool)}
theorem t_sliceRL {α : Type} {E : Enc α} {x lo : Operand} {b n : Nat} {t e : TypeId} {k : IntKind} {m : Int} (hx : topP G x = some (pSr b n) := by rfl) (h1 : topP G lo = some (pK k m) := by rfl)
    (ht : USl P t e := by infer_instance) (hE : TEc P e E := by infer_instance) (hb : 0 ≤ m ∧ m < n := by omega) :
    TOp P N ⟨d, .slice t x (some lo) none none, ty, pos, aft, g⟩ G [] (.pu (pv (.slice (some ⟨b, m.toNat * E.sz, none⟩) (n - m.toNat) (n - m.toNat)))) := .pure [x, lo] (by simp [Op.operands]) fun {B M w fr} hf => by
  obtain ⟨_, k0, rfl⟩ := hf.op hx (by simp)
  obtain ⟨_, k2, rfl, _⟩ := hf.op h1 (by simp)
  obtain ⟨z, hz, hT⟩ := hE.out
  refine OP.val (w' := w) (fun a' ha => ?_) ⟨rfl, rfl⟩
  have b2 : (Instr.sliceBound (.int k m) n .sliceB).run P w = .ok m.toNat w := run_bound (by omega)
  have hne : ¬ n = m.toNat := by omega
  simp only [execOp, ha.eval k0, ha.eval k2, Option.map_some, Option.map_none]
  simp [Instr.sliceAt, Instr.slice, run_underlying ht.out, Instr.sliceBounds, b2, hT.run_sizeOf (w := w), hne, Addr.add_lit]
theorem t_sliceRH {x hi : Operand} {b n : Nat} {t e : TypeId} {k : IntKind} {m : Int} (hx : topP G x = some (pSr b n) := by rfl) (h1 : topP G hi = some (pK k m) := by rfl)
    (ht : USl P t e := by infer_instance) (hE : TEc P e eI := by infer_instance) (hb : 0 ≤ m ∧ m ≤ n := by omega) :
    TOp P N ⟨d, .slice t x none (some hi) none, ty, pos, aft, g⟩ G [] (.pu (pv (.slice (some ⟨b, 0, none⟩) m.toNat n))) := .pure [x, hi] (by simp [Op.operands]) fun {B M w fr} hf => by
  obtain ⟨_, k0, rfl⟩ := hf.op hx (by simp)
  obtain ⟨_, k2, rfl, _⟩ := hf.op h1 (by simp)
  obtain ⟨z, hz, hT⟩ := hE.out
  refine OP.val (w' := w) (fun a' ha => ?_) ⟨rfl, rfl⟩
  have b2 : (Instr.sliceBound (.int k m) n .sliceAcap).run P w = .ok m.toNat w := run_bound (by omega)
  simp only [execOp, ha.eval k0, ha.eval k2, Option.map_some, Option.map_none]
  simp [Instr.sliceAt, Instr.slice, run_underlying ht.out, Instr.sliceBounds, b2, hT.run_sizeOf (w := w), Addr.add_lit]
end
section
variable {P : Program} {f : FuncId} {N : Nat} {M0 : Mut} {w0 : World} {R : Value → World → Prop} {G : TF} {k : List Item}
variable {ops : Array Oper} {d : Nat} {ty : TypeId} {pos : String} {aft : Array Edge} {rest : List Oper}
theorem c_copy {x y : Operand} {b n tag : Nat} {l s : List Int} {t e : TypeId} (key : Nat) (hk : RLt P f N M0 w0 ops k R rest ((d, .pu (pI s.length)) :: (key, .rw b tag eI (over l 0 s) e) :: dropW [tag] G))
    (hx : topP G x = some (pSr b n) := by rfl) (hy : topP G y = some (pSl eI s) := by rfl) (hg : tlook G key = some (.rw b tag eI l e) := by rfl) (ht : USl P t e := by infer_instance) (hE : TEc P e eI := by infer_instance)
    (hn : s.length ≤ n := by omega) (hl : s.length ≤ l.length := by omega) (hd : d < N := by decide) : RLt P f N M0 w0 ops k R (⟨some d, .call ⟨.builtin .copy, #[x, y], #[t, t]⟩, ty, pos, aft, none⟩ :: rest) G := ⟨fun {M w fr} hr hf => by
  obtain ⟨_, k0, rfl⟩ := hf.op0 hx (fun _ _ => trivial)
  obtain ⟨v, k1, k2⟩ := hf.op0 hy (fun _ _ => trivial)
  obtain ⟨hB, hbx⟩ := hf.out key _ hg (.inr trivial)
  have hsl := k2.le
  obtain ⟨a, cap, f1, f2, f3, f4, f5, f6⟩ := k2.ex
  subst f1
  have hcss : (∀ n ∈ s, I64 n) ∧ (Builtin.firstCells 1 s.length (.slice a s.length cap)).run P w = .ok (s.map (Value.int .i64)).toArray w := by
    cases a with
    | none =>
      have := f4 rfl
      have : s = [] := List.eq_nil_of_length_eq_zero (by omega)
      subst this
      exact ⟨(fun n hn => by cases hn), rfl⟩
    | some ad =>
      obtain ⟨css, c1, c2⟩ := CSS.of_elems (f6 ad rfl)
      obtain ⟨rfl, hI⟩ := cssI.1 c1
      exact ⟨hI, run_firstCells_some (P := P) w 1 s.length ad s.length cap _ c1.len (fun j v h => (c2 j v h).1)⟩
  refine rl_step hd (op_copyI (M := M) (w0 := w0) (b := b) (tag := tag) (off := 0) (l := l) (s := s) (len := s.length) (k := s.length) ht.out hE.out k0 k1 (Nat.min_eq_right hn) hcss.2 rfl hcss.1 hB hbx (by omega) fun w' h1 h2 => ?_)
  have hs := StW.st h2
  exact hk.out (hr.stw hs) (Fit.cons (T := .pu (pI s.length)) (Fit.hide (T := .rw b tag eI (over l 0 s) e) (hf.after hs) ⟨hB, h1⟩) ⟨rfl, rng64 (by omega)⟩)⟩
theorem q_copy {i n' : Nat} {listed : Array Bool} {x y : Operand} {b n tag off : Nat} {l : List Int} {t e : TypeId} (key : Nat) (hr : Region.ready .any ops listed = [i]) (ho : ops[i]? = some ⟨some d, .call ⟨.builtin .copy, #[x, y], #[t, t]⟩, ty, pos, aft, none⟩)
    (hk : RTt P f N M0 w0 ops k R n' (listed.setIfInBounds i true) ((d, .pu (pI (min (n - off) off : Nat))) :: (key, .rw b tag eI (over l off (l.take (min (n - off) off))) e) :: dropW [tag] G))
    (hx : topP G x = some (pv (.slice (some ⟨b, off * eI.sz, none⟩) (n - off) (n - off))) := by rfl) (hy : topP G y = some (pv (.slice (some ⟨b, 0, none⟩) off n)) := by rfl) (hg : tlook G key = some (.rw b tag eI l e) := by rfl) (ht : USl P t e := by infer_instance)
    (hE : TEc P e eI := by infer_instance) (hn : l.length = n) (hof : off ≤ n) (hnn : n ≤ 9223372036854775807) (hd : d < N := by decide) : RTt P f N M0 w0 ops k R (n' + 1) listed G := ⟨fun {M w fr} hrn hf => by
  obtain ⟨_, k0, rfl⟩ := hf.op0 hx (fun _ _ => trivial)
  obtain ⟨_, k1, rfl⟩ := hf.op0 hy (fun _ _ => trivial)
  obtain ⟨hB, hbx⟩ := hf.out key _ hg (.inr trivial)
  have hbx' := hbx
  obtain ⟨css, c1, hb⟩ := hbx'
  obtain ⟨rfl, hI⟩ := cssI.1 c1
  have hlt : (l.take (min (n - off) off)).length = min (n - off) off := by rw [List.length_take]; omega
  have hcs : (Builtin.firstCells 1 (min (n - off) off) (.slice (some ⟨b, 0, none⟩) off n)).run P w = .ok ((l.take (min (n - off) off)).map (Value.int .i64)).toArray w := by
    refine run_firstCells_some (P := P) w 1 _ ⟨b, 0, none⟩ off n _ (by rw [List.length_map, hlt, Nat.mul_one]) (fun j v h => ?_)
    rw [Addr.add_lit, Nat.zero_add, hb.cell, ← h, List.map_take, List.getElem?_take]
    rw [List.map_take, List.getElem?_take] at h
    split at h
    · rename_i hj
      rw [if_pos hj]
    · cases h
  refine rt_one hr ho hd (op_copyI (M := M) (w0 := w0) (b := b) (tag := tag) (off := off) (l := l) (s := l.take (min (n - off) off)) (len := off) (k := min (n - off) off) ht.out hE.out (by rw [show off * eI.sz = off from Nat.mul_one _] at k0; exact k0) k1 rfl hcs hlt
    (fun n hn => hI n (List.mem_of_mem_take hn)) hB hbx (by rw [hlt]; omega) fun w' h1 h2 => ?_)
  have hs := StW.st h2
  exact hk.out (hrn.stw hs) (Fit.cons (T := .pu (pI (min (n - off) off : Nat))) (Fit.hide (T := .rw b tag eI (over l off (l.take (min (n - off) off))) e) (hf.after hs) ⟨hB, h1⟩) ⟨rfl, rng64 (by omega)⟩)⟩
end
def RetI (B : Nat) (w0 : World) (e : TypeId) (l : List Int) : Value → World → Prop := fun v w => (∃ b, v = .slice (some ⟨b, 0, none⟩) l.length l.length ∧ B ≤ b ∧ w.heap[b]? = some (.cells (l.map (Value.int .i64)).toArray e (0, 0)) ∧ ∀ n ∈ l, I64 n) ∧ Below w0.heap.size w0 w
structure FnI (P : Program) (g : FuncId) (Ps : List Pub) (e : TypeId) (l : List Int) : Prop where
  ent : Ent P g
  run : ∀ M w vs, MB M w → Lays M w → FitL M w Ps vs → CallsV P g vs w (RetI w.heap.size w e l)
theorem fnI_of {P : Program} {f : FuncId} {N : Nat} {fn : Func} {c : Code} {Ps : List Pub} {e : TypeId} {l : List Int} (he : Ent P f) (hf : P.funcs[f]? = some fn) (hb : fn.body = some c) (hN : fn.ntmps = N) (hn : Nat.ble Ps.length N = true)
    (h : ∀ M0 w0, Rt P f N M0 w0 [.code c] (argTF 0 Ps) (RetI w0.heap.size w0 e l)) : FnI P f Ps e l := ⟨he, fun M w vs hm hl0 hv => by
  have hlen := hv.len
  exact callsV_of_run hf hb hN (by rw [hlen]; exact Nat.le_of_ble_eq_true hn) ((h M w).out (Rn.refl hm) (fit_args hl0 0 hv))⟩
theorem c_retI {P : Program} {k : List Item} {f : FuncId} {N : Nat} {M0 : Mut} {w0 : World} {G : TF} {fn : Func} {t : Nat} {b tag n : Nat} {l l' : List Int} {e : TypeId} (key : Nat) (hf : P.funcs[f]? = some fn) (hr : fn.results = #[.tmp t]) (hl : l' = l) (hn : n = l.length)
    (hp : topP G (.tmp t) = some (pSr b n) := by rfl) (hg : tlook G key = some (.rw b tag eI l' e) := by rfl) : Rt P f N M0 w0 (.code .ret :: k) G (RetI w0.heap.size w0 e l) := ⟨fun {M w fr} hrn hfit => by
  subst hl hn
  obtain ⟨v, h1, rfl⟩ := hfit.op0 hp (fun _ _ => trivial)
  obtain ⟨hB, css, h2, h3⟩ := hfit.out key _ hg (.inr trivial)
  obtain ⟨rfl, hI⟩ := cssI.1 h2
  exact run_ret1 hf hr h1 ⟨⟨b, rfl, hB, h3.heap, hI⟩, hrn.bel⟩⟩
theorem t_callI {P : Program} {N : Nat} {G : TF} {d : Option Tmp} {ty : TypeId} {pos : String} {aft : Array Edge} {g : Option (Nat × Bool)} {f : FuncId} {args : List Operand} {argT : Array TypeId} {Ps : List Pub} {e : TypeId} {l : List Int} (tag : Nat) (h : FnI P f Ps e l) (ha : topPs G args = some Ps := by rfl) :
    TOp P N ⟨d, .call ⟨.value (.func f), args.toArray, argT⟩, ty, pos, aft, g⟩ G [] (.ow eI l tag e) := ⟨args, (by simp [Op.operands, Call.operands]; intro x hx; exact .inr hx), fun {M0 w0 M w fr} hr hf => by
  obtain ⟨vs, h1, h2⟩ := hf.ops ha (fun _ h => h)
  refine op_call h.ent h1 (h.run M w vs hr.mb hf.lay h2) fun v w' ⟨⟨b, e1, e2, e3, e4⟩, hb⟩ => ?_
  have hup : UpM M w (M.set b (some (0, tag))) w' := ⟨hb, fun c hc => by unfold Mut.set; rw [if_neg (by omega)], fun hm c hc => by
    have := (Array.getElem?_eq_some_iff.1 e3).1
    unfold Mut.set
    rw [if_neg (by omega)]
    exact hm c (Nat.le_trans hb.size hc)⟩
  exact ⟨_, StW.up hr.size hup, b, e1, Nat.le_trans hr.size e2, _, cssI.2 ⟨rfl, e4⟩, e3, by simp [Mut.set]⟩⟩
theorem take_rep {x : Int} {l : List Int} {off n : Nat} (hl : l.length = n) (_ho : 1 ≤ off) (hof : off < n) (h : l.take off = List.replicate off x) :
    (over l off (l.take (min (n - off) off))).take (off + min (n - off) off) = List.replicate (off + min (n - off) off) x ∧ (over l off (l.take (min (n - off) off))).length = n := by
  have h1 : l.take (min (n - off) off) = List.replicate (min (n - off) off) x := by
    rw [show min (n - off) off = min (min (n - off) off) off by omega, ← List.take_take, h, List.take_replicate]
  have hlen : (over l off (l.take (min (n - off) off))).length = n := by
    rw [over_len (by rw [List.length_take]; omega), hl]
  refine ⟨?_, hlen⟩
  unfold over
  rw [h1, h, List.take_append_of_le_length (by simp), List.replicate_append_replicate, List.take_of_length_le (by simp)]
set_option maxHeartbeats 1000000 in
theorem repeat_f {x : Int} {k : Int} (h : 1 ≤ k ∧ k ≤ 1000000) : FnI Tryd.prog 64 [pSl eI [x], pI k] 3 (List.replicate k.toNat x) := by
  refine fnI_of ent64 Tryd.func64 rfl Tryd.ntmps64 rfl fun M0 w0 => ?_
  have hkn : k.toNat = k := by omega
  (repeat (first | refine c_seq ?_ | refine c_reg ?_ | refine c_rnil ?_ | refine c_skip ?_ | refine c_false ?_ | refine c_yes ?_ | refine (c_make 1 100) ?_ | refine c_op (by first | exact t_call (h := (mul_f (k := k) (by omega))) | exact (t_cvU (h := (by first | omega | (simp; done)))) | exact (t_cvI) | exact (t_gtrF) | exact t_move | exact t_assign | exact t_pickF | exact t_lssF | exact t_ext0 | exact t_ext1 | exact t_len | fail) ?_ | fail))
  intro b
  have hll : (over (List.replicate k.toNat (0 : Int)) 0 [x]).length = k.toNat := by rw [over_len (by simp; omega), List.length_replicate]
  have hl1 : (over (List.replicate k.toNat (0 : Int)) 0 [x]).take 1 = List.replicate 1 x := by simp [over]
  (repeat (first | refine c_seq ?_ | refine c_reg ?_ | refine c_rnil ?_ | refine c_block ?_ | refine (c_copy 100 (hn := (by simp; omega)) (hl := (by simp; omega))) ?_ | refine c_op (by first | exact t_move | exact t_assign | fail) ?_ | fail))
  refine c_loop (fun y : List Int × Nat => [(0, .pu (pSl eI [x])), (7, .pu (pSr b k.toNat)), (100, .rw b 1 eI y.1 3), (8, .pu (pI y.2))])
    (fun y => y.1.length = k.toNat ∧ 1 ≤ y.2 ∧ y.2 ≤ k.toNat ∧ y.1.take y.2 = List.replicate y.2 x) (fun y => k.toNat - y.2) (over (List.replicate k.toNat (0 : Int)) 0 [x], 1) ⟨hll, Nat.le_refl _, by dsimp only; omega, hl1⟩ (by repeat (first | exact trivial | refine ⟨has_rfl rfl, ?_⟩ | fail)) ?_
  rintro ⟨l, off⟩ ⟨hl, ho, hok, ht⟩ ih
  dsimp only at hl ho hok ht ih ⊢
  by_cases hlt : off < k.toNat
  · obtain ⟨q1, q2⟩ := take_rep hl ho hlt ht
    (repeat (first | refine c_seq ?_ | refine c_reg ?_ | refine c_rnil ?_ | refine c_block ?_ | refine c_skip ?_ | refine c_true ?_ | refine c_op (by first | exact t_move | exact t_lssT | exact t_lenR | fail) ?_ | fail))
    refine c_draw {} 7 3 [0] [] mixed (by kernel_rfl) rfl rfl ?_
    (repeat (first | refine d_op (by first | exact (t_sliceRL) | exact (t_sliceRH) | exact t_move | fail) ?_ | fail))
    refine d_nil ?_
    refine q_copy 100 (i := 7) (by kernel_rfl) rfl ?_ (hn := hl) (hof := by omega) (hnn := by omega)
    refine q_op 8 (by kernel_rfl) rfl t_add ?_
    refine q_op 9 (by kernel_rfl) rfl t_assign ?_
    refine q_nil ?_ (by kernel_rfl)
    (repeat (first | refine c_inBlock ?_ | fail))
    exact (ih (over l off (l.take (min (k.toNat - off) off)), off + min (k.toNat - off) off) ⟨q2, by dsimp only; omega, by dsimp only; omega, q1⟩ (by dsimp only; omega)).sub (by repeat (first | exact trivial | refine ⟨has_rfl rfl, ?_⟩ | fail))
  · have : off = k.toNat := by omega
    subst this
    rw [← hl, List.take_length, hl] at ht
    (repeat (first | refine c_seq ?_ | refine c_reg ?_ | refine c_rnil ?_ | refine c_exit ?_ | refine c_false ?_ | refine c_op (by first | exact t_move | exact t_assign | exact t_lssF | exact t_lenR | fail) ?_ | fail))
    refine c_retI 100 Tryd.func64 rfl ht ?_
    simp
end Go.Proofs.YtedlipgopicijaaDoor
end

section
namespace Go.Proofs.YtedlipgopicijaaDoor
open Go Go.RowKit
def gapV (w : List Int) (m : Int) (i : Nat) : Int := 6 + (slk m w).tdiv (w.length - 1) + (if (i : Int) < (slk m w).tmod (w.length - 1) then 1 else 0)
def gapsM (w : List Int) (m : Int) (last : Bool) : List Int := (List.range (w.length - 1)).map fun i => if last then 6 else gapV w m i
theorem gapsM_len {w : List Int} {m : Int} {last : Bool} : (gapsM w m last).length = w.length - 1 := by simp [gapsM]
theorem gapsM_get {w : List Int} {m : Int} {last : Bool} {i : Nat} (h : i < (gapsM w m last).length) : (gapsM w m last)[i] = if last then 6 else gapV w m i := by simp [gapsM]
theorem repeatK_f {x k : Int} {K : Nat} (h : 1 ≤ k ∧ k ≤ 1000000) (hk : k = K) : FnI Tryd.prog 64 [pSl eI [x], pI k] 3 (List.replicate K x) := by
  have := repeat_f (x := x) h
  subst hk
  rwa [Int.toNat_natCast] at this
theorem gapsM_last {w : List Int} {m : Int} : gapsM w m true = List.replicate (w.length - 1) 6 := by
  unfold gapsM
  apply List.ext_getElem
  · simp
  · intro i h1 h2
    simp
set_option maxHeartbeats 1000000 in
theorem gaps_f {w : List Int} {m : Int} {last : Bool} (hm : 0 ≤ m ∧ m ≤ 2000) (hl : w.length ≤ 500) (hw : ∀ x ∈ w, 1 ≤ x ∧ x ≤ 480) :
    Fn Tryd.prog 38 [pSl eI w, pI m, pB last] (pSl eI (gapsM w m last)) := by
  refine fn_of ent38 Tryd.func38 rfl Tryd.ntmps38 rfl fun M0 w0 => ?_
  by_cases hk : w.length ≤ 1
  · have e : gapsM w m last = [] := by
      apply List.eq_nil_of_length_eq_zero
      rw [gapsM_len]
      omega
    rw [e]
    (repeat (first | refine c_seq ?_ | refine c_reg ?_ | refine c_rnil ?_ | refine c_true ?_ | refine c_op (by first | exact t_move | exact t_assign | exact t_sub | exact t_lssT | exact t_len | fail) ?_ | fail))
    refine c_ret1 Tryd.func38 rfl ?_
    intro M w' v h
    rw [show v = _ from h]
    exact SlOf.nil _ _ _
  obtain ⟨K, hK⟩ : ∃ K : Nat, w.length = K + 1 := ⟨w.length - 1, by omega⟩
  have hbd := slk_bd (m := m) hl hw
  (repeat (first | refine c_seq ?_ | refine c_reg ?_ | refine c_rnil ?_ | refine c_skip ?_ | refine c_false ?_ | refine c_op (by first | exact (t_bsI [6]) | exact (t_callI 2 (repeatK_f (K := K) (k := (w.length : Int) - 1) (by omega) (by omega))) | exact t_move | exact t_assignO | exact t_assign | exact t_sub | exact t_lssF | exact t_len | fail) ?_ | fail))
  refine c_row 8 100 fun b => ?_
  rw [List.length_replicate]
  refine c_ifb (fun hb => ?_) fun hb => ?_
  · subst hb
    rw [gapsM_last, show w.length - 1 = K by omega]
    refine c_frz 8 100 ?_
    (repeat (first | refine c_seq ?_ | refine c_reg ?_ | refine c_rnil ?_ | refine c_op (by first | exact t_move | exact t_assign | fail) ?_ | fail))
    refine c_ret1 Tryd.func38 rfl ?_
    exact fun h => h
  subst hb
  have hkI : (w.length : Int) - 1 = K := by omega
  have ht1 := tmod_rng (m := slk m w) (n := (w.length : Int) - 1) (by omega)
  have ht2 := tdiv_rng (m := slk m w) (n := (w.length : Int) - 1) (by unfold I64; omega) (by omega)
  have ht3 := Int.natAbs_tdiv_le_natAbs (slk m w) ((w.length : Int) - 1)
  (repeat (first | refine c_seq ?_ | refine c_reg ?_ | refine c_rnil ?_ | refine c_block ?_ | refine c_skip ?_ | refine c_op (by first | exact t_call (h := (slack_f hm hl hw)) | exact t_move | exact t_assign | exact t_lenR | fail) ?_ | fail))
  refine c_loop (fun x : List Int × Nat => [(0, .pu (pSl eI w)), (7, .pu (pI ((w.length : Int) - 1))), (8, .pu (pSr b K)), (100, .rw b 2 eI x.1 3), (9, .pu (pI (slk m w))), (25, .pu (pI K)), (26, .pu (pI x.2))])
    (fun x => x.1.length = K ∧ x.2 ≤ K ∧ (∀ j, j < x.2 → x.1[j]? = some (gapV w m j)) ∧ ∀ j, x.2 ≤ j → j < K → x.1[j]? = some 6) (fun x => K - x.2) (List.replicate K 6, 0) ⟨by simp, by omega, fun j hj => by dsimp only at hj; omega, fun j h1 h2 => by dsimp only; rw [List.getElem?_replicate, if_pos h2]⟩ (by repeat (first | exact trivial | refine ⟨has_rfl rfl, ?_⟩ | fail)) ?_
  rintro ⟨l, i⟩ ⟨hll, hi, hl1, hl2⟩ ih
  dsimp only at hll hi hl1 hl2 ih ⊢
  by_cases hlt : i < K
  · have hv := hl2 i (Nat.le_refl _) hlt
    (repeat (first | refine c_seq ?_ | refine c_reg ?_ | refine c_rnil ?_ | refine c_block ?_ | refine c_skip ?_ | refine c_true ?_ | refine c_op (by first | exact t_move | exact t_assign | exact t_lssT | fail) ?_ | fail))
    refine c_draw {} 9 1 [] [] mixed (by kernel_rfl) rfl rfl ?_
    (repeat (first | refine d_op (by first | exact (t_idxRN 100) | exact (t_loadRE 100 (hv := hv)) | exact t_move | exact t_add | exact t_quo | fail) ?_ | fail))
    refine d_nil ?_
    refine q_st 9 100 (by kernel_rfl) rfl (t_st 100) ?_
    refine q_nil ?_ (by kernel_rfl)
    have hset : ∀ (v : Int), v = gapV w m i → ∀ l' : List Int, l'.length = K → (∀ j, j ≠ i → l'[j]? = l[j]?) → l'[i]? = some v → (l'.length = K ∧ i + 1 ≤ K ∧ (∀ j, j < i + 1 → l'[j]? = some (gapV w m j)) ∧ ∀ j, i + 1 ≤ j → j < K → l'[j]? = some 6) := fun v hv l' h1 h2 h3 => by
      refine ⟨h1, by omega, fun j hj => ?_, fun j h4 h5 => ?_⟩
      · rcases Nat.lt_or_ge j i with h | h
        · rw [h2 j (by omega), hl1 j h]
        · rw [show j = i by omega, h3, hv]
      · rw [h2 j (by omega), hl2 j (by omega) h5]
    (repeat (first | refine c_seq ?_ | refine c_reg ?_ | refine c_rnil ?_ | refine c_op (by first | exact t_move | exact t_lss | exact t_rem | fail) ?_ | fail))
    refine c_if (fun hr => ?_) fun hr => ?_
    · have hv2 : (l.set i (6 + (slk m w).tdiv ((w.length : Int) - 1)))[i]? = some (6 + (slk m w).tdiv ((w.length : Int) - 1)) := by rw [List.getElem?_set_self (by omega)]
      (repeat (first | refine c_reg ?_ | refine c_rnil ?_ | refine c_inBlock ?_ | refine (c_st 100 (t_st 100)) ?_ | refine c_op (by first | exact (t_idxRN 100 (h0 := by omega)) | exact (t_loadRE 100 (hv := hv2)) | exact t_move | exact t_add | fail) ?_ | fail))
      refine (ih ((l.set i (6 + (slk m w).tdiv ((w.length : Int) - 1))).set i (6 + (slk m w).tdiv ((w.length : Int) - 1) + 1), i + 1) (hset (6 + (slk m w).tdiv ((w.length : Int) - 1) + 1) ?_ _ ?_ ?_ ?_) (by dsimp only; omega)).sub (by repeat (first | exact trivial | refine ⟨has_rfl rfl, ?_⟩ | fail))
      · unfold gapV
        rw [if_pos hr]
      · rw [List.length_set, List.length_set, hll]
      · intro j hj
        rw [List.getElem?_set_ne (by omega), List.getElem?_set_ne (by omega)]
      · rw [List.getElem?_set_self (by rw [List.length_set]; omega)]
    · (repeat (first | refine c_reg ?_ | refine c_rnil ?_ | refine c_inBlock ?_ | refine c_skip ?_ | refine c_op (by first | exact t_move | exact t_add | fail) ?_ | fail))
      refine (ih (l.set i (6 + (slk m w).tdiv ((w.length : Int) - 1)), i + 1) (hset (6 + (slk m w).tdiv ((w.length : Int) - 1)) ?_ _ ?_ ?_ ?_) (by dsimp only; omega)).sub (by repeat (first | exact trivial | refine ⟨has_rfl rfl, ?_⟩ | fail))
      · unfold gapV
        rw [if_neg hr, Int.add_zero]
      · rw [List.length_set, hll]
      · intro j hj
        rw [List.getElem?_set_ne (by omega)]
      · rw [List.getElem?_set_self (by omega)]
  · have e : l = gapsM w m false := by
      apply List.ext_getElem?
      intro j
      rcases Nat.lt_or_ge j K with h | h
      · rw [hl1 j (by omega), List.getElem?_eq_getElem (by rw [gapsM_len]; omega), gapsM_get]
        rfl
      · rw [List.getElem?_eq_none (by omega), List.getElem?_eq_none (by rw [gapsM_len]; omega)]
    subst e
    refine c_frz 8 100 ?_ (hn := by rw [gapsM_len]; omega)
    (repeat (first | refine c_seq ?_ | refine c_reg ?_ | refine c_rnil ?_ | refine c_exit ?_ | refine c_false ?_ | refine c_op (by first | exact t_move | exact t_assign | exact t_lssF | fail) ?_ | fail))
    refine c_ret1 Tryd.func38 rfl ?_
    exact fun h => h
set_option maxHeartbeats 1000000 in
theorem gapsR_f {w : List Int} {m : Int} {last : Bool} (hm : 0 ≤ m ∧ m ≤ 2000) (hl : w.length ≤ 500) (hw : ∀ x ∈ w, 1 ≤ x ∧ x ≤ 480) :
    Fn Tryd.prog 61 [pSl eI w, pI m, pB last] (pSl eI (gapsM w m last)) := by
  refine fn_of ent61 Tryd.func61 rfl Tryd.ntmps61 rfl fun M0 w0 => ?_
  have hbd := slk_bd (m := m) hl hw
  (repeat (first | refine c_seq ?_ | refine c_reg ?_ | refine c_rnil ?_ | refine c_block ?_ | refine c_op (by first | exact t_call (h := (slackR_f hm hl hw)) | exact t_move | exact t_assign | exact t_sub | exact t_len | fail) ?_ | fail))
  refine c_loop (fun i : Nat => [(2, .pu (pB last)), (7, .gr eI ((gapsM w m last).take i) 1 3), (8, .pu (pI ((w.length : Int) - 1))), (9, .pu (pI (slk m w))), (10, .pu (pI i))]) (fun i => i ≤ w.length - 1) (fun i => w.length - i) 0 (by omega) (by repeat (first | exact trivial | refine ⟨has_rfl rfl, ?_⟩ | refine ⟨has_nil rfl, ?_⟩ | fail)) fun i hi ih => ?_
  by_cases hlt : (i : Int) < (w.length : Int) - 1
  · have hig : i < (gapsM w m last).length := by rw [gapsM_len]; omega
    have hst : (gapsM w m last).take (i + 1) = (gapsM w m last).take i ++ [if last then 6 else gapV w m i] := by rw [List.take_succ_eq_append_getElem hig, gapsM_get]
    have ht1 := tmod_rng (m := slk m w) (n := (w.length : Int) - 1) (by omega)
    have ht3 := Int.natAbs_tdiv_le_natAbs (slk m w) ((w.length : Int) - 1)
    cases last
    · by_cases hr : (i : Int) < (slk m w).tmod ((w.length : Int) - 1)
      · (repeat (first | refine c_seq ?_ | refine c_reg ?_ | refine c_rnil ?_ | refine c_block ?_ | refine c_inBlock ?_ | refine c_skip ?_ | refine c_true ?_ | refine c_op (by first | exact t_moveG | exact t_move | exact t_assignG | exact t_assign | exact t_add | exact t_not | exact t_lssT | exact t_bs | exact t_quo | exact t_rem | fail) ?_ | refine c_opW t_app ?_ | fail))
        refine (ih (i + 1) (by omega) (by omega)).sub ?_
        (repeat' (first | exact trivial | refine ⟨?_, ?_⟩ | fail)) <;> (try first | exact has_rfl rfl | exact has_nil rfl | exact has_nilS rfl | exact has_gr rfl | exact has_nilGo rfl | exact has_int rfl (by first | omega | fail) | fail)
        refine has_grE rfl ?_
        rw [hst]
        unfold gapV
        rw [if_pos hr]
        rfl
      · (repeat (first | refine c_seq ?_ | refine c_reg ?_ | refine c_rnil ?_ | refine c_block ?_ | refine c_inBlock ?_ | refine c_skip ?_ | refine c_true ?_ | refine c_false ?_ | refine c_op (by first | exact t_moveG | exact t_move | exact t_assignG | exact t_assign | exact t_add | exact t_not | exact t_lssT | exact t_lssF | exact t_bs | exact t_quo | exact t_rem | fail) ?_ | refine c_opW t_app ?_ | fail))
        refine (ih (i + 1) (by omega) (by omega)).sub ?_
        (repeat' (first | exact trivial | refine ⟨?_, ?_⟩ | fail)) <;> (try first | exact has_rfl rfl | exact has_nil rfl | exact has_nilS rfl | exact has_gr rfl | exact has_nilGo rfl | exact has_int rfl (by first | omega | fail) | fail)
        refine has_grE rfl ?_
        rw [hst]
        unfold gapV
        rw [if_neg hr, Int.add_zero]
        rfl
    · (repeat (first | refine c_seq ?_ | refine c_reg ?_ | refine c_rnil ?_ | refine c_block ?_ | refine c_inBlock ?_ | refine c_skip ?_ | refine c_true ?_ | refine c_false ?_ | refine c_op (by first | exact t_moveG | exact t_move | exact t_assignG | exact t_assign | exact t_add | exact t_not | exact t_lssT | exact t_bs | fail) ?_ | refine c_opW t_app ?_ | fail))
      refine (ih (i + 1) (by omega) (by omega)).sub ?_
      (repeat' (first | exact trivial | refine ⟨?_, ?_⟩ | fail)) <;> (try first | exact has_rfl rfl | exact has_nil rfl | exact has_nilS rfl | exact has_gr rfl | exact has_nilGo rfl | exact has_int rfl (by first | omega | fail) | fail)
      refine has_grE rfl ?_
      rw [hst]
      rfl
  · (repeat (first | refine c_seq ?_ | refine c_reg ?_ | refine c_rnil ?_ | refine c_exit ?_ | refine c_false ?_ | refine c_op (by first | exact t_moveG | exact t_move | exact t_assignG | exact t_lssF | fail) ?_ | fail))
    refine c_ret1 Tryd.func61 rfl ?_
    rw [List.take_of_length_le (by rw [gapsM_len]; omega)]
    exact fun h => h
end Go.Proofs.YtedlipgopicijaaDoor
end

section
namespace Go.Proofs.YtedlipgopicijaaDoor
open Go Go.RowKit
theorem ends_v {w r : List Int} {m : Int} (h : chk26 w m = 0) (h2 : endsM w m = r) : Fn Tryd.prog 36 [pSl eI w, pI m] (pT2 (pSl eI r) (pI 0)) := by
  have := ends_f (w := w) (m := m)
  rwa [if_pos h, h, h2] at this
theorem cost_v {w ends : List Int} {m c e : Int} (h : costM w m ends = (c, e)) : Fn Tryd.prog 37 [pSl eI w, pI m, pSl eI ends] (pT2 (pI c) (pI e)) := by
  have := cost_f (w := w) (m := m) (ends := ends)
  rwa [h] at this
theorem gaps_v {w r : List Int} {m : Int} {last : Bool} (hm : 0 ≤ m ∧ m ≤ 2000) (hl : w.length ≤ 500) (hw : ∀ x ∈ w, 1 ≤ x ∧ x ≤ 480) (h : gapsM w m last = r) : Fn Tryd.prog 38 [pSl eI w, pI m, pB last] (pSl eI r) := by
  have := gaps_f (w := w) (m := m) (last := last) hm hl hw
  rwa [h] at this
theorem same_v {a : List Int} : Fn Tryd.prog 35 [pSl eI a, pSl eI a] (pB true) := by
  have := sameInts_f (a := a) (b := a)
  rwa [decide_eq_true rfl] at this
set_option maxHeartbeats 2000000 in
theorem lives_f : Fn Tryd.prog 14 [] (pB true) := by
  have e1 := ends_v (w := [200, 200, 200, 90]) (m := 500) (r := [2, 4]) (by decide) (by decide)
  have e2 := ends_v (w := [247, 247, 247, 247]) (m := 500) (r := [2, 4]) (by decide) (by decide)
  have c1 := cost_v (w := [200, 200, 200, 90]) (m := 500) (ends := [2, 4]) (c := 8836) (e := 0) (by decide)
  have c2 := cost_v (w := [200, 200, 200, 90]) (m := 500) (ends := [1, 3, 4]) (c := 98836) (e := 0) (by decide)
  have c3 := cost_v (w := [200, 200, 200, 90]) (m := 500) (ends := [1, 4]) (c := 0) (e := 9) (by decide)
  have g1 := gaps_v (w := [100, 100, 100]) (m := 500) (last := false) (r := [100, 100]) (by decide) (by decide) (by decide) (by decide)
  have g2 := gaps_v (w := [100, 100, 99]) (m := 500) (last := false) (r := [101, 100]) (by decide) (by decide) (by decide) (by decide)
  have g3 := gaps_v (w := [100, 100, 99]) (m := 500) (last := true) (r := [6, 6]) (by decide) (by decide) (by decide) (by decide)
  have g4 := gaps_v (w := [9]) (m := 500) (last := false) (r := []) (by decide) (by decide) (by decide) (by decide)
  refine fn_of ent14 Tryd.func14 rfl Tryd.ntmps14 rfl fun M0 w0 => ?_
  (repeat (first | refine c_seq ?_ | refine c_reg ?_ | refine c_rnil ?_ | refine c_skip ?_ | refine c_false ?_ | refine c_yes ?_ | refine c_op (by first | exact t_call (h := e1) | exact t_call (h := e2) | exact t_call (h := c1) | exact t_call (h := c2) | exact t_call (h := c3) | exact t_call (h := g1) | exact t_call (h := g2) | exact t_call (h := g3) | exact t_call (h := g4) | exact t_call (h := same_v) | exact (t_bsI [200, 200, 200, 90]) | exact (t_bsI [2, 4]) | exact (t_bsI [1, 3, 4]) | exact (t_bsI [1, 4]) | exact (t_bsI [247, 247, 247, 247]) | exact (t_bsI [100, 100, 100]) | exact (t_bsI [100, 100, 99]) | exact (t_bsI [100, 100]) | exact (t_bsI [101, 100]) | exact (t_bsI [6, 6]) | exact (t_bsI [9]) | exact t_move | exact t_assign | exact t_pickT | exact t_pickF | exact t_eql | exact t_neqF | exact t_ext0 | exact t_ext1 | exact t_len | fail) ?_ | fail))
  refine c_ret1 Tryd.func14 rfl ?_
  exact fun h => h
end Go.Proofs.YtedlipgopicijaaDoor
end

section
namespace Go.Proofs.YtedlipgopicijaaDoor
theorem chk_of {w : List Int} {m : Int} (hl : w.length ≤ 500) (hm : 500 ≤ m ∧ m ≤ 2000) (hw : ∀ x ∈ w, 1 ≤ x ∧ x ≤ 480) : chk26 w m = 0 := by
  unfold chk26
  rw [if_neg (by omega), if_neg (by omega), if_pos (okW_of hw)]
end Go.Proofs.YtedlipgopicijaaDoor
end

section
namespace Go.Proofs.YtedlipgopicijaaDoor
open Go Go.RowKit
def segW (ws : List Wd) (a b : Int) : List Wd := (ws.drop a.toNat).take (b.toNat - a.toNat)
def notesW (l : List Wd) : List Int := (l.filter fun w => decide (w.note ≠ 0)).map fun w => w.note - 1
def widsW (ws : List Wd) : List Int := ws.map fun w => widM w.s
def lnGo (ws : List Wd) (first m : Int) : Int → List Int → List Line
  | _, [] => []
  | a, e :: r => ⟨first + a, first + e, gapsM (seg (widsW ws) a e) m (decide (r = [])), notesW (segW ws a e)⟩ :: lnGo ws first m e r
def lnsM (ws : List Wd) (first m : Int) : List Line := lnGo ws first m 0 (endsM (widsW ws) m)
structure OKR (ws : List Wd) : Prop where
  len : ws.length ≤ 500
  wid : ∀ w ∈ ws, 1 ≤ widM w.s
  note : ∀ w ∈ ws, 0 ≤ w.note ∧ w.note ≤ 100
theorem widsW_len (ws : List Wd) : (widsW ws).length = ws.length := by simp [widsW]
theorem widsW_get (ws : List Wd) (i : Nat) (h : i < ws.length) : (widsW ws)[i]'(by rw [widsW_len]; exact h) = widM ws[i].s := by simp [widsW]
theorem OKR.ok {ws : List Wd} (h : OKR ws) : ∀ x ∈ widsW ws, 1 ≤ x ∧ x ≤ 480 := by
  intro x hx
  obtain ⟨w, hw, rfl⟩ := List.mem_map.1 hx
  exact ⟨h.wid w hw, (widM_rng w.s).2⟩
theorem OKR.chk {ws : List Wd} (h : OKR ws) {m : Int} (hm : 500 ≤ m ∧ m ≤ 2000) : chk26 (widsW ws) m = 0 := chk_of (by rw [widsW_len]; exact h.len) hm h.ok
theorem ends_ord {w : List Int} {m : Int} (hm : 500 ≤ m) (hw : ∀ x ∈ w, 1 ≤ x ∧ x ≤ 480) : ordE w.length 0 (endsM w m) = true :=
  (walk_cost m hm hw (w.length + 1) 0 (by omega) (by omega)).1
theorem ordE_cons {n a e : Int} {r : List Int} (h : ordE n a (e :: r) = true) : a < e ∧ e ≤ n ∧ ordE n e r = true := by
  simp only [ordE, Bool.and_eq_true, decide_eq_true_eq] at h
  exact ⟨h.1, (ordE_le h.2).1, h.2⟩
theorem ordE_nil {n a : Int} (h : ordE n a [] = true) : a = n := by simpa [ordE] using h
theorem notesW_append (a b : List Wd) : notesW (a ++ b) = notesW a ++ notesW b := by simp [notesW]
theorem notesW_one (w : Wd) : notesW [w] = if w.note ≠ 0 then [w.note - 1] else [] := by
  unfold notesW
  by_cases h : w.note = 0 <;> simp [h]
theorem segW_len {w : List Wd} {a b : Int} (h1 : 0 ≤ a) (h2 : a ≤ b) (h3 : b ≤ w.length) : (segW w a b).length = b.toNat - a.toNat := by
  unfold segW; rw [List.length_take, List.length_drop]; omega
theorem segW_mem {w : List Wd} {a b : Int} : ∀ x ∈ segW w a b, x ∈ w := fun x hx => List.mem_of_mem_drop (List.mem_of_mem_take hx)
theorem segW_succ {w : List Wd} {a k : Nat} (h1 : a ≤ k) (h2 : k < w.length) : segW w a ((k + 1 : Nat) : Int) = segW w a k ++ [w[k]] := by
  unfold segW
  rw [Int.toNat_natCast, Int.toNat_natCast, Int.toNat_natCast, show k + 1 - a = (k - a) + 1 by omega, List.take_succ_eq_append_getElem (by rw [List.length_drop]; omega), List.getElem_drop]
  congr 2
  congr 1
  omega
def bodyGo (m : Int) : Int → List (List Wd) → List Line
  | _, [] => []
  | first, p :: r => lnsM p first m ++ bodyGo m (first + p.length) r
def notesGo (m : Int) : Int → List (List Wd) → List (List Line)
  | _, [] => []
  | first, p :: r => lnsM p first m :: notesGo m (first + p.length) r
def wordsN (l : List (List Wd)) : Nat := (l.map List.length).sum
end Go.Proofs.YtedlipgopicijaaDoor
end

section
namespace Go.Proofs.YtedlipgopicijaaDoor
open Go Go.RowKit
def pLn0 (a e : Int) (gaps : List Int) : Pub := ⟨fun M w v => ∃ gv, v = .agg #[.int .i64 a, .int .i64 e, gv, .slice none 0 0] ∧ I64 a ∧ I64 e ∧ SlOf eI M w gv gaps, fun hx ⟨gv, h1, h2, h3, h4⟩ => ⟨gv, h1, h2, h3, h4.mono hx⟩⟩
def slG (v : Value) (l : List Int) : Gh where
  tags := []
  p := fun _ M w _ => SlOf eI M w v l
  mono := fun h hs _ => h.mono hs.x
section
variable {P : Program} {N : Nat} {G : TF} {d : Option Tmp} {ty : TypeId} {pos : String} {aft : Array Edge} {g : Option (Nat × Bool)}
theorem t_blLn {x y z : Operand} {a e : Int} {gaps : List Int} (hx : topP G x = some (pI a) := by rfl) (hy : topP G y = some (pI e) := by rfl) (hz : topP G z = some (pSl eI gaps) := by rfl) :
    TOp Tryd.prog N ⟨d, .build 42 #[(0, x), (1, y), (2, z)], ty, pos, aft, g⟩ G [] (.pu (pLn0 a e gaps)) := .pure [x, y, z] (by simp [Op.operands]) fun {B M w fr} hf => by
  obtain ⟨_, h0, rfl, r0⟩ := hf.op hx (by simp)
  obtain ⟨_, h1, rfl, r1⟩ := hf.op hy (by simp)
  obtain ⟨gv, h2, h3⟩ := hf.op hz (by simp)
  obtain ⟨ad, cap, e1, _⟩ := h3.ex
  exact op_build (parts := [(0, x), (1, y), (2, z)]) (vs := [.int .i64 a, .int .i64 e, gv]) (pl := [(0, [.int .i64 a]), (1, [.int .i64 e]), (2, [gv])]) sbL (by simp [opvs, h0, h1, h2])
    ⟨rfl, rfl, Nat.le_of_ble_eq_true rfl, rfl, rfl, Nat.le_of_ble_eq_true rfl, rfl, by rw [e1]; rfl, Nat.le_of_ble_eq_true rfl, trivial⟩ ⟨rfl, gv, rfl, r0.1 rfl, r1.1 rfl, h3⟩
theorem t_loadLn {x : Operand} {b tag tn : Nat} {gv nv : Value} {a e : Int} {gaps notes : List Int} {te en : TypeId} (key kg kn : Nat) (hx : topP G x = some (pCe b 0) := by rfl) (hg : tlook G key = some (.bx b tag [.int .i64 a, .int .i64 e, gv, nv] te) := by rfl)
    (hb : tlook G kg = some (.gh (slG gv gaps)) := by rfl) (hn : tlook G kn = some (.gv nv eI notes tn en) := by rfl) (ha : I64 a) (he : I64 e) :
    TOp Tryd.prog N ⟨d, .load 42 x, ty, pos, aft, g⟩ G [] (.pu (pV eLine ⟨a, e, gaps, notes⟩)) := .pure [x] (by simp [Op.operands]) fun {B M w fr} hf => by
  obtain ⟨_, k0, rfl⟩ := hf.op hx (by simp)
  obtain ⟨_, hbx⟩ := hf.out key _ hg (.inl rfl)
  have h1 := hf.out kg _ hb (.inl rfl)
  obtain ⟨h2, _⟩ := hf.out kn _ hn (.inl rfl)
  exact op_loadn tdL k0 hbx (Nat.le_refl _) ⟨rfl, _, eLine_R.2 ⟨gv, nv, rfl, ha, he, h1, h2⟩, rfl⟩
end
instance focLn3 : FOc Tryd.prog 42 3 3 := ⟨fdL3⟩
instance t1cSI : T1c Tryd.prog 22 := ⟨24, _, tdSI⟩
section
variable {f : FuncId} {N : Nat} {M0 : Mut} {w0 : World} {R : Value → World → Prop} {G : TF} {k : List Item}
variable {ops : Array Oper} {ty : TypeId} {pos : String} {aft : Array Edge} {rest : List Oper}
theorem stLn_run {M : Mut} {w : World} {fr : Fr} {x y : Operand} {b tag : Nat} {cs : List Value} {te : TypeId} {a e : Int} {gaps : List Int} {v : Value} {Ψ : Value → World → Prop} {dd : Option Tmp} {g : Option (Nat × Bool)} (hr : Rn M0 w0 M w) (hx : opv fr x = some (.pointer (some ⟨b, 0, none⟩)))
    (hy : opv fr y = some v) (hv : (pLn0 a e gaps).p M w v) (hB : w0.heap.size ≤ b) (hb : Box M w b tag cs te) (hl : cs.length = 4)
    (h : ∀ (ad : Option Addr) (n cap : Nat) (M' : Mut) (w' : World), StW w0.heap.size [tag] M w M' w' → Box M' w' b tag [.int .i64 a, .int .i64 e, .slice ad n cap, .slice none 0 0] te → SlOf eI M' w' (.slice ad n cap) gaps → I64 a → I64 e → Ψ undef w') :
    OP Tryd.prog N ⟨dd, .store 42 x y, ty, pos, aft, g⟩ fr w Ψ := by
  obtain ⟨gv, rfl, i1, i2, h1⟩ := hv
  obtain ⟨ad, cap, rfl, _⟩ := h1.ex
  refine op_store tdL hx hy (c := [.int .i64 a, .int .i64 e, .slice ad gaps.length cap, .slice none 0 0]) rfl (by simp [Value.oneCell']) rfl hr hB hb (by rw [hl]; exact Nat.le_refl _) fun w' hb' hst => ?_
  refine h ad gaps.length cap M w' (StW.st hst) ?_ (h1.mono hst.x) i1 i2
  have hsp : splice cs 0 [.int .i64 a, .int .i64 e, .slice ad gaps.length cap, .slice none 0 0] = [.int .i64 a, .int .i64 e, .slice ad gaps.length cap, .slice none 0 0] := by
    unfold splice
    rw [List.take_zero, List.nil_append, List.drop_of_length_le (by rw [hl]; exact Nat.le_refl _), List.append_nil]
  rw [hsp] at hb'
  exact hb'
theorem c_stLn {x y : Operand} {b tag : Nat} {cs : List Value} {te : TypeId} {a e : Int} {gaps : List Int} (key kg kn tn : Nat)
    (hk : ∀ (ad : Option Addr) (n cap : Nat), I64 a → I64 e → RLt Tryd.prog f N M0 w0 ops k R rest ((key, .bx b tag [.int .i64 a, .int .i64 e, .slice ad n cap, .slice none 0 0] te) :: (kg, .gh (slG (.slice ad n cap) gaps)) :: (kn, .gv (.slice none 0 0) eI [] tn 3) :: dropW [tag] G))
    (hx : topP G x = some (pCe b 0) := by rfl) (hg : tlook G key = some (.bx b tag cs te) := by rfl) (hy : topP G y = some (pLn0 a e gaps) := by rfl) (hl : cs.length = 4 := by rfl) :
    RLt Tryd.prog f N M0 w0 ops k R (⟨none, .store 42 x y, ty, pos, aft, none⟩ :: rest) G := ⟨fun {M w fr} hr hf => by
  obtain ⟨_, h1, rfl⟩ := hf.op0 hx (fun _ _ => trivial)
  obtain ⟨v, h2, h3⟩ := hf.op0 hy (fun _ _ => trivial)
  obtain ⟨hB, hb⟩ := hf.out key _ hg (.inr trivial)
  refine rl_step0 (stLn_run hr h1 h2 h3 hB hb hl fun ad n cap M' w' hs hb' hsl i1 i2 => ?_)
  exact (hk ad n cap i1 i2).out (hr.stw hs) (Fit.hide (T := .bx _ _ _ _) (Fit.hide (T := .gh (slG (.slice ad n cap) gaps)) (Fit.hide (T := .gv (.slice none 0 0) eI [] tn 3) (hf.after hs) ⟨SlOf.nil _ _ _, Grow.nil⟩) hsl) ⟨hB, hb'⟩)⟩
end
theorem row_set {w : List Int} {i n : Nat} (hn : w.length = n) (h : i < n) : (w.take i ++ List.replicate (n - i) 0).set i (w[i]'(by omega)) = w.take (i + 1) ++ List.replicate (n - (i + 1)) 0 := by
  have hl : (w.take i).length = i := by rw [List.length_take]; omega
  rw [List.set_append, if_neg (by omega), hl, Nat.sub_self, List.take_succ_eq_append_getElem (by omega), show n - i = (n - (i + 1)) + 1 by omega, List.replicate_succ, List.set_cons_zero, List.append_assoc]
  rfl
theorem row_end {w : List Int} {i n : Nat} (hn : w.length = n) (h : n ≤ i) : w.take i ++ List.replicate (n - i) 0 = w := by
  rw [List.take_of_length_le (by omega), show n - i = 0 by omega]; simp
end Go.Proofs.YtedlipgopicijaaDoor
end
