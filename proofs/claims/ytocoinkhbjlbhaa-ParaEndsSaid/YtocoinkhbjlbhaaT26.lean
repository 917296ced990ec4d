/-
  What the functions of layer 26 and of its reference do: numbers, checks, slack, cost.
-/
import Derived.Test.YtocoinkhbjlbhaaKit10
import Derived.Test.YtocoinkhbjlbhaaS1
import Derived.Test.YtocoinkhbjlbhaaM26b
namespace Go.Proofs.Ytocoinkhbjlbhaa
open Go Go.RowKit

section
variable {P : Program} {N : Nat} {G : TF} {d : Option Tmp} {ty : TypeId} {pos : String} {aft : Array Edge} {g : Option (Nat × Bool)}
/-- A closure without captured variables is called. -/
theorem t_callv {f : FuncId} {x : Operand} {args : List Operand} {argT : Array TypeId} {Ps : List Pub} {Q : Pub} (hx : topP G x = some (pv (.func (.func f) #[] #[])) := by rfl) (ha : topPs G args = some Ps := by rfl) (h : Fn P f Ps Q) :
    TOp P N ⟨d, .call ⟨.value x, args.toArray, argT⟩, ty, pos, aft, g⟩ G [] (.pu Q) := .up (x :: args) (by simp [Op.operands, Call.operands]) fun {M0 w0 M w fr} hr hf => by
  obtain ⟨_, k0, rfl⟩ := hf.op hx (by simp)
  obtain ⟨vs, h1, h2⟩ := hf.ops ha (fun t h => by simp [h])
  exact op_callv (cap := []) (R := fun v w' => Q.p M w' v ∧ Below w.heap.size w w') h.ent k0 h1 (by simpa using h.run M w vs hr.mb h2) fun v w' hv => ⟨hv.2, hv.1⟩
/-- x[lo:hi:hi] -/
theorem t_sliceM {α : Type} {E : Enc α} {x lo hi mx : Operand} {l : List α} {t e : TypeId} {k k' k2 : IntKind} {m n : Int} (hx : topP G x = some (pSl E l) := by rfl) (h1 : topP G lo = some (pK k m) := by rfl) (h2 : topP G hi = some (pK k' n) := by rfl) (h3 : topP G mx = some (pK k2 n) := by rfl)
    (ht : USl P t e := by infer_instance) (hE : TEc P e E := by infer_instance) (hb : 0 ≤ m ∧ m ≤ n ∧ n ≤ l.length := by omega) :
    TOp P N ⟨d, .slice t x (some lo) (some hi) (some mx), ty, pos, aft, g⟩ G [] (.pu (pSl E ((l.drop m.toNat).take (n.toNat - m.toNat)))) := .pure [x, lo, hi, mx] (by simp [Op.operands]) fun {B M w fr} hf => by
  obtain ⟨_, k0, k1⟩ := hf.op hx (by simp)
  obtain ⟨_, q1, rfl, _⟩ := hf.op h1 (by simp)
  obtain ⟨_, q2, rfl, _⟩ := hf.op h2 (by simp)
  obtain ⟨_, q3, rfl, _⟩ := hf.op h3 (by simp)
  obtain ⟨a, cap, e1, e2, e3, e4, _⟩ := k1.ex
  obtain ⟨z, hz, hT⟩ := hE.out
  have hcut := k1.cut (lo := m.toNat) (hi := n.toNat) e1 (by omega) (by omega)
  obtain ⟨a2, cap2, f1, f2, f3, f4, f5, f6⟩ := hcut.ex
  have hlen : ((l.drop m.toNat).take (n.toNat - m.toNat)).length = n.toNat - m.toNat := by simp; omega
  have hsl : SlOf E M w (.slice (if n.toNat = m.toNat then a else a.map (·.add (m.toNat * E.sz))) (n.toNat - m.toNat) (n.toNat - m.toNat)) ((l.drop m.toNat).take (n.toNat - m.toNat)) := by
    refine ⟨_, n.toNat - m.toNat, by rw [hlen], by rw [hlen]; omega, by omega, fun h => ?_, f5, fun ad he i hi => ?_⟩
    · split at h
      · omega
      · cases a with
        | none => have := e4 rfl; omega
        | some ad => cases h
    · rw [hlen] at hi
      rw [if_neg (by omega)] at he
      simp only [Value.slice.injEq] at f1
      have hcap : ¬ cap = m.toNat := by omega
      rw [if_neg hcap] at f1
      exact f6 ad (f1.1.symm.trans he) i (by rw [hlen]; exact hi)
  refine OP.val (w' := w) (fun a' ha => ?_) ⟨rfl, hsl⟩
  have b0 : (Instr.sliceBound (.int k2 n) cap .slice3Acap).run P w = .ok n.toNat w := run_bound (by omega)
  have b1 : (Instr.sliceBound (.int k' n) n.toNat .slice3B).run P w = .ok n.toNat w := run_bound (by omega)
  have b2 : (Instr.sliceBound (.int k m) n.toNat .slice3C).run P w = .ok m.toNat w := run_bound (by omega)
  simp only [execOp, ha.eval k0, ha.eval q1, ha.eval q2, ha.eval q3, e1, Option.map_some]
  simp [Instr.sliceAt, Instr.slice, run_underlying ht.out, Instr.sliceBounds, b0, b1, b2, hT.run_sizeOf (w := w)]
end

theorem fitL_consts : ∀ (l : List Int), l.all (inR .i64) = true → ∀ {M : Mut} {w : World} {fr : Fr}, ∃ vs, opvs fr (l.map fun n => Operand.const (.int .i64 n)) = some vs ∧ Vals eI M w vs l
  | [], _, _, _, _ => ⟨[], rfl, trivial⟩
  | n :: l, h, M, w, fr => by
    simp only [List.all_cons, Bool.and_eq_true] at h
    obtain ⟨vs, h1, h2⟩ := fitL_consts l h.2 (M := M) (w := w) (fr := fr)
    have hr := inR_rng h.1
    exact ⟨.int .i64 n :: vs, by simp [opvs, opv, h1], ⟨_, ⟨rfl, hr.1, hr.2⟩, rfl⟩, h2⟩
/-- A slice of constants. -/
theorem t_bsI {P : Program} {N : Nat} {G : TF} {d : Option Tmp} {ty : TypeId} {pos : String} {aft : Array Edge} {g : Option (Nat × Bool)} (l : List Int) {t e : TypeId} {n : Nat} {parts : List (Nat × Operand)} (hi : parts.map (·.1) = List.range' 0 n := by rfl)
    (hx : parts.map (·.2) = l.map (fun n => Operand.const (.int .i64 n)) := by rfl) (hr : l.all (inR .i64) = true := by rfl) (ht : USl P t e := by infer_instance) (hE : TEc P e eI := by infer_instance) (hn : n = l.length := by rfl)
    (hb : (l.length * eI.sz ≤ 16777216 ∧ l.length * eI.by_ ≤ 140737488351232) := by exact ⟨Nat.le_of_ble_eq_true rfl, Nat.le_of_ble_eq_true rfl⟩) : TOp P N ⟨d, .buildSlice t n parts.toArray, ty, pos, aft, g⟩ G [] (.pu (pSl eI l)) := .up [] (by simp) fun {M0 w0 M w fr} hrn _ => by
  obtain ⟨vs, h1, h2⟩ := fitL_consts l hr (M := M) (w := w) (fr := fr)
  rw [← hx] at h1
  exact op_buildSlice ht.out hE.out hrn hi h1 h2 hn hb fun v w' k1 _ k2 => ⟨k2, k1⟩

theorem i_len26 {M : Mut} {w : World} {v : Value} {l : List Int} (h : SlOf eI M w v l) : l.length ≤ 17592186044416 := by
  have := h.bytes
  have e : eI.by_ = 8 := rfl
  rw [e] at this
  omega

theorem around_f {n m : Int} (h : 1 ≤ m) : Fn Try.prog 33 [pI n, pI m] (pI (aro n m)) := ⟨ent33, fun M w vs _ hf => by
  match vs, hf with
  | [u, v], ⟨⟨h1, h2⟩, ⟨h3, h4⟩, _⟩ =>
    subst h1 h3
    have := aro_bd n m h
    have h5 := h4.1 rfl
    unfold I64 at h5
    exact (around01 n m w (h2.1 rfl) h).mono fun u w' ⟨e, e2⟩ => ⟨⟨e, rng64 (by omega)⟩, e2 ▸ Below.refl _ _⟩⟩

def pickM (l : List Int) (i m : Int) : Int := if i < 0 ∨ (l.length : Int) ≤ i then 0 else aro ((l[i.toNat]?).getD 0) m

theorem pickM_bd (l : List Int) (i m : Int) (h : 1 ≤ m) : 0 ≤ pickM l i m ∧ pickM l i m < m := by
  unfold pickM
  split
  · omega
  · exact aro_bd _ _ h

theorem pick_f {l : List Int} {i m : Int} (h : 1 ≤ m) : Fn Try.prog 55 [pSl eI l, pI i, pI m] (pI (pickM l i m)) := by
  refine fn_of ent55 Try.func55 rfl Try.ntmps55 rfl fun M0 w0 => ?_
  unfold pickM
  by_cases h1 : i < 0
  · rw [if_pos (.inl h1)]
    (repeat (first | refine c_seq ?_ | refine c_reg ?_ | refine c_rnil ?_ | refine c_block ?_ | refine c_inBlock ?_ | refine c_exit ?_ | refine c_skip ?_ | refine c_label ?_ | refine c_true ?_ | refine c_false ?_ | refine c_yes ?_ | refine c_no ?_ | refine c_op (by first | exact t_moveG | exact t_move | exact t_moveO | exact t_assignG | exact t_assignO | exact t_assign | exact t_pickT | exact t_pickF | exact t_add | exact t_sub | exact t_neg | exact t_not | exact t_min | exact t_max | exact t_lssT | exact t_lssF | exact t_lss | exact t_leqT | exact t_leqF | exact t_leq | exact t_gtrT | exact t_gtrF | exact t_gtr | exact t_geqT | exact t_geqF | exact t_geq | exact t_eqlT | exact t_eqlF | exact t_eql | exact t_neqT | exact t_neqF | exact t_neq | exact t_ext0 | exact t_ext1 | exact t_ext30 | exact t_ext31 | exact t_ext32 | exact t_len | exact t_lenN | exact t_lenR | exact t_idxN | exact t_idx | exact t_load | exact t_fa | exact t_fv | exact t_bl | exact t_sliceG | exact t_sliceLHN | exact t_sliceLN | exact t_sliceHN | exact t_sliceLH | exact t_sliceL | exact t_sliceH | exact t_bs | exact t_quo | exact t_rem | exact t_boxP) ?_ | refine c_opW t_app ?_))
    refine c_ret1 Try.func55 rfl ?_
    exact fun h => h
  by_cases h2 : (l.length : Int) ≤ i
  · rw [if_pos (.inr h2)]
    (repeat (first | refine c_seq ?_ | refine c_reg ?_ | refine c_rnil ?_ | refine c_block ?_ | refine c_inBlock ?_ | refine c_exit ?_ | refine c_skip ?_ | refine c_label ?_ | refine c_true ?_ | refine c_false ?_ | refine c_yes ?_ | refine c_no ?_ | refine c_op (by first | exact t_moveG | exact t_move | exact t_moveO | exact t_assignG | exact t_assignO | exact t_assign | exact t_pickT | exact t_pickF | exact t_add | exact t_sub | exact t_neg | exact t_not | exact t_min | exact t_max | exact t_lssT | exact t_lssF | exact t_lss | exact t_leqT | exact t_leqF | exact t_leq | exact t_gtrT | exact t_gtrF | exact t_gtr | exact t_geqT | exact t_geqF | exact t_geq | exact t_eqlT | exact t_eqlF | exact t_eql | exact t_neqT | exact t_neqF | exact t_neq | exact t_ext0 | exact t_ext1 | exact t_ext30 | exact t_ext31 | exact t_ext32 | exact t_len | exact t_lenN | exact t_lenR | exact t_idxN | exact t_idx | exact t_load | exact t_fa | exact t_fv | exact t_bl | exact t_sliceG | exact t_sliceLHN | exact t_sliceLN | exact t_sliceHN | exact t_sliceLH | exact t_sliceL | exact t_sliceH | exact t_bs | exact t_quo | exact t_rem | exact t_boxP) ?_ | refine c_opW t_app ?_))
    refine c_ret1 Try.func55 rfl ?_
    exact fun h => h
  rw [if_neg (by omega), List.getElem?_eq_getElem (show i.toNat < l.length by omega), Option.getD_some]
  (repeat (first | refine c_seq ?_ | refine c_reg ?_ | refine c_rnil ?_ | refine c_block ?_ | refine c_inBlock ?_ | refine c_exit ?_ | refine c_skip ?_ | refine c_label ?_ | refine c_true ?_ | refine c_false ?_ | refine c_yes ?_ | refine c_no ?_ | refine c_op (by first | exact t_call (h := (around_f h)) | exact t_moveG | exact t_move | exact t_moveO | exact t_assignG | exact t_assignO | exact t_assign | exact t_pickT | exact t_pickF | exact t_add | exact t_sub | exact t_neg | exact t_not | exact t_min | exact t_max | exact t_lssT | exact t_lssF | exact t_lss | exact t_leqT | exact t_leqF | exact t_leq | exact t_gtrT | exact t_gtrF | exact t_gtr | exact t_geqT | exact t_geqF | exact t_geq | exact t_eqlT | exact t_eqlF | exact t_eql | exact t_neqT | exact t_neqF | exact t_neq | exact t_ext0 | exact t_ext1 | exact t_ext30 | exact t_ext31 | exact t_ext32 | exact t_len | exact t_lenN | exact t_lenR | exact t_idxN | exact t_idx | exact t_load | exact t_fa | exact t_fv | exact t_bl | exact t_sliceG | exact t_sliceLHN | exact t_sliceLN | exact t_sliceHN | exact t_sliceLH | exact t_sliceL | exact t_sliceH | exact t_bs | exact t_quo | exact t_rem | exact t_boxP) ?_ | refine c_opW t_app ?_))
  refine c_ret1 Try.func55 rfl ?_
  exact fun h => h

/-- Widths. -/
structure WOK (w : List Int) : Prop where
  len : w.length ≤ 60
  ok : ∀ x ∈ w, 1 ≤ x ∧ x ≤ 480

theorem aro_mod {n m k : Int} (h : 1 ≤ m) (hk : 0 < k) : 0 ≤ (aro n m).tmod k ∧ (aro n m).tmod k < k := by
  have h1 := aro_bd n m h
  exact ⟨Int.tmod_nonneg k h1.1, Int.tmod_lt_of_pos _ hk⟩

set_option maxHeartbeats 1000000 in
theorem widths_f {l : List Int} : Fn Try.prog 31 [pSl eI l] (pEx fun w => pAnd (WOK w) (pSl eI w)) := by
  refine fn_of ent31 Try.func31 rfl Try.ntmps31 rfl fun M0 w0 => ?_
  refine c_have 0 (fun h => i_len26 h) fun hl => ?_
  (repeat (first | refine c_seq ?_ | refine c_reg ?_ | refine c_rnil ?_ | refine c_block ?_ | refine c_inBlock ?_ | refine c_exit ?_ | refine c_skip ?_ | refine c_label ?_ | refine c_true ?_ | refine c_false ?_ | refine c_yes ?_ | refine c_no ?_ | refine c_op (by first | exact t_moveG | exact t_move | exact t_moveO | exact t_assignG | exact t_assignO | exact t_assign | exact t_pickT | exact t_pickF | exact t_add | exact t_sub | exact t_neg | exact t_not | exact t_min | exact t_max | exact t_lssT | exact t_lssF | exact t_lss | exact t_leqT | exact t_leqF | exact t_leq | exact t_gtrT | exact t_gtrF | exact t_gtr | exact t_geqT | exact t_geqF | exact t_geq | exact t_eqlT | exact t_eqlF | exact t_eql | exact t_neqT | exact t_neqF | exact t_neq | exact t_ext0 | exact t_ext1 | exact t_ext30 | exact t_ext31 | exact t_ext32 | exact t_len | exact t_lenN | exact t_lenR | exact t_idxN | exact t_idx | exact t_load | exact t_fa | exact t_fv | exact t_bl | exact t_sliceG | exact t_sliceLHN | exact t_sliceLN | exact t_sliceHN | exact t_sliceLH | exact t_sliceL | exact t_sliceH | exact t_bs | exact t_quo | exact t_rem | exact t_boxP) ?_ | refine c_opW t_app ?_))
  refine c_loop (fun x : List Int => [(0, .pu (pSl eI l)), (3, .gr eI x 1 3), (4, .pu (pI (1 + x.length : Nat)))]) WOK (fun x => 60 - x.length) [] ⟨by simp, by simp⟩ (by repeat (first | exact trivial | refine ⟨has_rfl rfl, ?_⟩ | refine ⟨has_nil rfl, ?_⟩ | refine ⟨has_nilS rfl, ?_⟩ | refine ⟨has_gr rfl, ?_⟩ | refine ⟨has_int rfl (by first | omega | (simp only [List.length_append, List.length_singleton]; omega)), ?_⟩)) fun x hx ih => ?_
  have hxl := hx.len
  by_cases hgo : (1 + x.length : Nat) < l.length ∧ x.length < 60
  · obtain ⟨hg1, hg2⟩ := hgo
    have step : ∀ y : Int, 1 ≤ y ∧ y ≤ 480 → WOK (x ++ [y]) := fun y hy => ⟨by rw [List.length_append, List.length_singleton]; omega, fun z hz => by
      rcases List.mem_append.1 hz with hz | hz
      · exact hx.ok z hz
      · rw [List.mem_singleton.1 hz]; exact hy⟩
    have hp := pickM_bd l 0 3 (by omega)
    have hm1 := aro_mod (n := l[1 + x.length]) (m := 1000000) (k := 480) (by omega) (by omega)
    have hm2 := aro_mod (n := l[1 + x.length]) (m := 1000000) (k := 6) (by omega) (by omega)
    have hm3 := aro_mod (n := l[1 + x.length]) (m := 1000000) (k := 60) (by omega) (by omega)
    by_cases h0 : pickM l 0 3 = 0
    · have hin : ∀ (j : Nat) (hj : j < [247, 100, 94, 30, 480, (200 : Int)].length), 1 ≤ [247, 100, 94, 30, 480, (200 : Int)][j] ∧ [247, 100, 94, 30, 480, (200 : Int)][j] ≤ 480 := by decide
      have hlt : ((aro l[1 + x.length] 1000000).tmod 6).toNat < [247, 100, 94, 30, 480, (200 : Int)].length := by show _ < 6; omega
      (repeat (first | refine c_seq ?_ | refine c_reg ?_ | refine c_rnil ?_ | refine c_block ?_ | refine c_inBlock ?_ | refine c_exit ?_ | refine c_skip ?_ | refine c_label ?_ | refine c_true ?_ | refine c_false ?_ | refine c_yes ?_ | refine c_no ?_ | refine c_op (by first | exact t_call (h := (around_f (by omega))) | exact t_call (h := (pick_f (by omega))) | exact (t_bsI [247, 100, 94, 30, 480, 200]) | exact (t_idx (hn := hlt)) | exact t_moveG | exact t_move | exact t_moveO | exact t_assignG | exact t_assignO | exact t_assign | exact t_pickT | exact t_pickF | exact t_add | exact t_sub | exact t_neg | exact t_not | exact t_min | exact t_max | exact t_lssT | exact t_lssF | exact t_lss | exact t_leqT | exact t_leqF | exact t_leq | exact t_gtrT | exact t_gtrF | exact t_gtr | exact t_geqT | exact t_geqF | exact t_geq | exact t_eqlT | exact t_eqlF | exact t_eql | exact t_neqT | exact t_neqF | exact t_neq | exact t_ext0 | exact t_ext1 | exact t_ext30 | exact t_ext31 | exact t_ext32 | exact t_len | exact t_lenN | exact t_lenR | exact t_idxN | exact t_idx | exact t_load | exact t_fa | exact t_fv | exact t_bl | exact t_sliceG | exact t_sliceLHN | exact t_sliceLN | exact t_sliceHN | exact t_sliceLH | exact t_sliceL | exact t_sliceH | exact t_bs | exact t_quo | exact t_rem | exact t_boxP) ?_ | refine c_opW t_app ?_))
      exact (ih (x ++ [[247, 100, 94, 30, 480, (200 : Int)][((aro l[1 + x.length] 1000000).tmod 6).toNat]]) (step _ (hin _ hlt)) (by rw [List.length_append, List.length_singleton]; omega)).sub (by repeat (first | exact trivial | refine ⟨has_rfl rfl, ?_⟩ | refine ⟨has_nil rfl, ?_⟩ | refine ⟨has_nilS rfl, ?_⟩ | refine ⟨has_gr rfl, ?_⟩ | refine ⟨has_int rfl (by first | omega | (simp only [List.length_append, List.length_singleton]; omega)), ?_⟩))
    · by_cases h1 : pickM l 0 3 = 1
      · (repeat (first | refine c_seq ?_ | refine c_reg ?_ | refine c_rnil ?_ | refine c_block ?_ | refine c_inBlock ?_ | refine c_exit ?_ | refine c_skip ?_ | refine c_label ?_ | refine c_true ?_ | refine c_false ?_ | refine c_yes ?_ | refine c_no ?_ | refine c_op (by first | exact t_call (h := (around_f (by omega))) | exact t_call (h := (pick_f (by omega))) | exact t_moveG | exact t_move | exact t_moveO | exact t_assignG | exact t_assignO | exact t_assign | exact t_pickT | exact t_pickF | exact t_add | exact t_sub | exact t_neg | exact t_not | exact t_min | exact t_max | exact t_lssT | exact t_lssF | exact t_lss | exact t_leqT | exact t_leqF | exact t_leq | exact t_gtrT | exact t_gtrF | exact t_gtr | exact t_geqT | exact t_geqF | exact t_geq | exact t_eqlT | exact t_eqlF | exact t_eql | exact t_neqT | exact t_neqF | exact t_neq | exact t_ext0 | exact t_ext1 | exact t_ext30 | exact t_ext31 | exact t_ext32 | exact t_len | exact t_lenN | exact t_lenR | exact t_idxN | exact t_idx | exact t_load | exact t_fa | exact t_fv | exact t_bl | exact t_sliceG | exact t_sliceLHN | exact t_sliceLN | exact t_sliceHN | exact t_sliceLH | exact t_sliceL | exact t_sliceH | exact t_bs | exact t_quo | exact t_rem | exact t_boxP) ?_ | refine c_opW t_app ?_))
        exact (ih (x ++ [8 + (aro l[1 + x.length] 1000000).tmod 60]) (step _ (by omega)) (by rw [List.length_append, List.length_singleton]; omega)).sub (by repeat (first | exact trivial | refine ⟨has_rfl rfl, ?_⟩ | refine ⟨has_nil rfl, ?_⟩ | refine ⟨has_nilS rfl, ?_⟩ | refine ⟨has_gr rfl, ?_⟩ | refine ⟨has_int rfl (by first | omega | (simp only [List.length_append, List.length_singleton]; omega)), ?_⟩))
      · (repeat (first | refine c_seq ?_ | refine c_reg ?_ | refine c_rnil ?_ | refine c_block ?_ | refine c_inBlock ?_ | refine c_exit ?_ | refine c_skip ?_ | refine c_label ?_ | refine c_true ?_ | refine c_false ?_ | refine c_yes ?_ | refine c_no ?_ | refine c_op (by first | exact t_call (h := (around_f (by omega))) | exact t_call (h := (pick_f (by omega))) | exact t_moveG | exact t_move | exact t_moveO | exact t_assignG | exact t_assignO | exact t_assign | exact t_pickT | exact t_pickF | exact t_add | exact t_sub | exact t_neg | exact t_not | exact t_min | exact t_max | exact t_lssT | exact t_lssF | exact t_lss | exact t_leqT | exact t_leqF | exact t_leq | exact t_gtrT | exact t_gtrF | exact t_gtr | exact t_geqT | exact t_geqF | exact t_geq | exact t_eqlT | exact t_eqlF | exact t_eql | exact t_neqT | exact t_neqF | exact t_neq | exact t_ext0 | exact t_ext1 | exact t_ext30 | exact t_ext31 | exact t_ext32 | exact t_len | exact t_lenN | exact t_lenR | exact t_idxN | exact t_idx | exact t_load | exact t_fa | exact t_fv | exact t_bl | exact t_sliceG | exact t_sliceLHN | exact t_sliceLN | exact t_sliceHN | exact t_sliceLH | exact t_sliceL | exact t_sliceH | exact t_bs | exact t_quo | exact t_rem | exact t_boxP) ?_ | refine c_opW t_app ?_))
        exact (ih (x ++ [1 + (aro l[1 + x.length] 1000000).tmod 480]) (step _ (by omega)) (by rw [List.length_append, List.length_singleton]; omega)).sub (by repeat (first | exact trivial | refine ⟨has_rfl rfl, ?_⟩ | refine ⟨has_nil rfl, ?_⟩ | refine ⟨has_nilS rfl, ?_⟩ | refine ⟨has_gr rfl, ?_⟩ | refine ⟨has_int rfl (by first | omega | (simp only [List.length_append, List.length_singleton]; omega)), ?_⟩))
  · by_cases hg1 : (1 + x.length : Nat) < l.length
    · have hg2 : 60 < 1 + x.length := by omega
      (repeat (first | refine c_seq ?_ | refine c_reg ?_ | refine c_rnil ?_ | refine c_block ?_ | refine c_inBlock ?_ | refine c_exit ?_ | refine c_skip ?_ | refine c_label ?_ | refine c_true ?_ | refine c_false ?_ | refine c_yes ?_ | refine c_no ?_ | refine c_op (by first | exact t_moveG | exact t_move | exact t_moveO | exact t_assignG | exact t_assignO | exact t_assign | exact t_pickT | exact t_pickF | exact t_add | exact t_sub | exact t_neg | exact t_not | exact t_min | exact t_max | exact t_lssT | exact t_lssF | exact t_lss | exact t_leqT | exact t_leqF | exact t_leq | exact t_gtrT | exact t_gtrF | exact t_gtr | exact t_geqT | exact t_geqF | exact t_geq | exact t_eqlT | exact t_eqlF | exact t_eql | exact t_neqT | exact t_neqF | exact t_neq | exact t_ext0 | exact t_ext1 | exact t_ext30 | exact t_ext31 | exact t_ext32 | exact t_len | exact t_lenN | exact t_lenR | exact t_idxN | exact t_idx | exact t_load | exact t_fa | exact t_fv | exact t_bl | exact t_sliceG | exact t_sliceLHN | exact t_sliceLN | exact t_sliceHN | exact t_sliceLH | exact t_sliceL | exact t_sliceH | exact t_bs | exact t_quo | exact t_rem | exact t_boxP) ?_ | refine c_opW t_app ?_))
      refine c_ret1 Try.func31 rfl ?_
      exact fun h => ⟨x, hx, h⟩
    · (repeat (first | refine c_seq ?_ | refine c_reg ?_ | refine c_rnil ?_ | refine c_block ?_ | refine c_inBlock ?_ | refine c_exit ?_ | refine c_skip ?_ | refine c_label ?_ | refine c_true ?_ | refine c_false ?_ | refine c_yes ?_ | refine c_no ?_ | refine c_op (by first | exact t_moveG | exact t_move | exact t_moveO | exact t_assignG | exact t_assignO | exact t_assign | exact t_pickT | exact t_pickF | exact t_add | exact t_sub | exact t_neg | exact t_not | exact t_min | exact t_max | exact t_lssT | exact t_lssF | exact t_lss | exact t_leqT | exact t_leqF | exact t_leq | exact t_gtrT | exact t_gtrF | exact t_gtr | exact t_geqT | exact t_geqF | exact t_geq | exact t_eqlT | exact t_eqlF | exact t_eql | exact t_neqT | exact t_neqF | exact t_neq | exact t_ext0 | exact t_ext1 | exact t_ext30 | exact t_ext31 | exact t_ext32 | exact t_len | exact t_lenN | exact t_lenR | exact t_idxN | exact t_idx | exact t_load | exact t_fa | exact t_fv | exact t_bl | exact t_sliceG | exact t_sliceLHN | exact t_sliceLN | exact t_sliceHN | exact t_sliceLH | exact t_sliceL | exact t_sliceH | exact t_bs | exact t_quo | exact t_rem | exact t_boxP) ?_ | refine c_opW t_app ?_))
      refine c_ret1 Try.func31 rfl ?_
      exact fun h => ⟨x, hx, h⟩

/-- The measure of a law. -/
def measM (n : Int) : Int := if 0 < aro n 3 then 500 + aro n 60 else 500 + aro n 1501

theorem measM_bd (n : Int) : 500 ≤ measM n ∧ measM n ≤ 2000 := by
  unfold measM
  have h1 := aro_bd n 60 (by omega)
  have h2 := aro_bd n 1501 (by omega)
  split <;> omega

theorem width_f {n : Int} : Fn Try.prog 35 [pI n] (pI (measM n)) := by
  have h1 := aro_bd n 60 (by omega)
  have h2 := aro_bd n 1501 (by omega)
  refine fn_of ent35 Try.func35 rfl Try.ntmps35 rfl fun M0 w0 => ?_
  unfold measM
  by_cases h : 0 < aro n 3
  · rw [if_pos h]
    (repeat (first | refine c_seq ?_ | refine c_reg ?_ | refine c_rnil ?_ | refine c_block ?_ | refine c_inBlock ?_ | refine c_exit ?_ | refine c_skip ?_ | refine c_label ?_ | refine c_true ?_ | refine c_false ?_ | refine c_yes ?_ | refine c_no ?_ | refine c_op (by first | exact t_call (h := (around_f (by omega))) | exact t_moveG | exact t_move | exact t_moveO | exact t_assignG | exact t_assignO | exact t_assign | exact t_pickT | exact t_pickF | exact t_add | exact t_sub | exact t_neg | exact t_not | exact t_min | exact t_max | exact t_lssT | exact t_lssF | exact t_lss | exact t_leqT | exact t_leqF | exact t_leq | exact t_gtrT | exact t_gtrF | exact t_gtr | exact t_geqT | exact t_geqF | exact t_geq | exact t_eqlT | exact t_eqlF | exact t_eql | exact t_neqT | exact t_neqF | exact t_neq | exact t_ext0 | exact t_ext1 | exact t_ext30 | exact t_ext31 | exact t_ext32 | exact t_len | exact t_lenN | exact t_lenR | exact t_idxN | exact t_idx | exact t_load | exact t_fa | exact t_fv | exact t_bl | exact t_sliceG | exact t_sliceLHN | exact t_sliceLN | exact t_sliceHN | exact t_sliceLH | exact t_sliceL | exact t_sliceH | exact t_bs | exact t_quo | exact t_rem | exact t_boxP) ?_ | refine c_opW t_app ?_))
    refine c_ret1 Try.func35 rfl ?_
    exact fun h => h
  · rw [if_neg h]
    (repeat (first | refine c_seq ?_ | refine c_reg ?_ | refine c_rnil ?_ | refine c_block ?_ | refine c_inBlock ?_ | refine c_exit ?_ | refine c_skip ?_ | refine c_label ?_ | refine c_true ?_ | refine c_false ?_ | refine c_yes ?_ | refine c_no ?_ | refine c_op (by first | exact t_call (h := (around_f (by omega))) | exact t_moveG | exact t_move | exact t_moveO | exact t_assignG | exact t_assignO | exact t_assign | exact t_pickT | exact t_pickF | exact t_add | exact t_sub | exact t_neg | exact t_not | exact t_min | exact t_max | exact t_lssT | exact t_lssF | exact t_lss | exact t_leqT | exact t_leqF | exact t_leq | exact t_gtrT | exact t_gtrF | exact t_gtr | exact t_geqT | exact t_geqF | exact t_geq | exact t_eqlT | exact t_eqlF | exact t_eql | exact t_neqT | exact t_neqF | exact t_neq | exact t_ext0 | exact t_ext1 | exact t_ext30 | exact t_ext31 | exact t_ext32 | exact t_len | exact t_lenN | exact t_lenR | exact t_idxN | exact t_idx | exact t_load | exact t_fa | exact t_fv | exact t_bl | exact t_sliceG | exact t_sliceLHN | exact t_sliceLN | exact t_sliceHN | exact t_sliceLH | exact t_sliceL | exact t_sliceH | exact t_bs | exact t_quo | exact t_rem | exact t_boxP) ?_ | refine c_opW t_app ?_))
    refine c_ret1 Try.func35 rfl ?_
    exact fun h => h

theorem broken_f {l : List Int} {n : Int} (hn : 0 ≤ n ∧ n ≤ 1000) : Fn Try.prog 32 [pSl eI l, pI n] (pEx fun e => pAnd (e.length ≤ n + 1) (pSl eI e)) := by
  refine fn_of ent32 Try.func32 rfl Try.ntmps32 rfl fun M0 w0 => ?_
  refine c_have 0 (fun h => i_len26 h) fun hl => ?_
  (repeat (first | refine c_seq ?_ | refine c_reg ?_ | refine c_rnil ?_ | refine c_block ?_ | refine c_inBlock ?_ | refine c_exit ?_ | refine c_skip ?_ | refine c_label ?_ | refine c_true ?_ | refine c_false ?_ | refine c_yes ?_ | refine c_no ?_ | refine c_op (by first | exact t_moveG | exact t_move | exact t_moveO | exact t_assignG | exact t_assignO | exact t_assign | exact t_pickT | exact t_pickF | exact t_add | exact t_sub | exact t_neg | exact t_not | exact t_min | exact t_max | exact t_lssT | exact t_lssF | exact t_lss | exact t_leqT | exact t_leqF | exact t_leq | exact t_gtrT | exact t_gtrF | exact t_gtr | exact t_geqT | exact t_geqF | exact t_geq | exact t_eqlT | exact t_eqlF | exact t_eql | exact t_neqT | exact t_neqF | exact t_neq | exact t_ext0 | exact t_ext1 | exact t_ext30 | exact t_ext31 | exact t_ext32 | exact t_len | exact t_lenN | exact t_lenR | exact t_idxN | exact t_idx | exact t_load | exact t_fa | exact t_fv | exact t_bl | exact t_sliceG | exact t_sliceLHN | exact t_sliceLN | exact t_sliceHN | exact t_sliceLH | exact t_sliceL | exact t_sliceH | exact t_bs | exact t_quo | exact t_rem | exact t_boxP) ?_ | refine c_opW t_app ?_))
  refine c_loop (fun x : List Int × Int × Nat => [(0, .pu (pSl eI l)), (1, .pu (pI n)), (5, .gr eI x.1 1 3), (6, .pu (pI x.2.1)), (7, .pu (pI x.2.2))])
    (fun x => x.2.2 ≤ l.length ∧ 0 ≤ x.2.1 ∧ x.2.1 ≤ n + 9 ∧ x.1.length ≤ x.2.1 ∧ x.1.length ≤ n) (fun x => l.length - x.2.2) ([], 0, 0) ⟨by simp, by simp, by dsimp only; omega, by simp, by simp; omega⟩ (by repeat (first | exact trivial | refine ⟨has_rfl rfl, ?_⟩ | refine ⟨has_nil rfl, ?_⟩ | refine ⟨has_nilS rfl, ?_⟩ | refine ⟨has_gr rfl, ?_⟩ | refine ⟨has_int rfl (by first | omega | (simp only [List.length_append, List.length_singleton]; omega)), ?_⟩)) ?_
  rintro ⟨e, a, i⟩ ⟨hi, ha0, ha1, he, hen⟩ ih
  dsimp only at hi ha0 ha1 he hen ih ⊢
  by_cases hgo : i < l.length ∧ a < n
  · obtain ⟨hg1, hg2⟩ := hgo
    have hb := aro_bd l[i] 9 (by omega)
    by_cases hlt : a + 1 + aro l[i] 9 < n
    · (repeat (first | refine c_seq ?_ | refine c_reg ?_ | refine c_rnil ?_ | refine c_block ?_ | refine c_inBlock ?_ | refine c_exit ?_ | refine c_skip ?_ | refine c_label ?_ | refine c_true ?_ | refine c_false ?_ | refine c_yes ?_ | refine c_no ?_ | refine c_op (by first | exact t_call (h := (around_f (by omega))) | exact t_moveG | exact t_move | exact t_moveO | exact t_assignG | exact t_assignO | exact t_assign | exact t_pickT | exact t_pickF | exact t_add | exact t_sub | exact t_neg | exact t_not | exact t_min | exact t_max | exact t_lssT | exact t_lssF | exact t_lss | exact t_leqT | exact t_leqF | exact t_leq | exact t_gtrT | exact t_gtrF | exact t_gtr | exact t_geqT | exact t_geqF | exact t_geq | exact t_eqlT | exact t_eqlF | exact t_eql | exact t_neqT | exact t_neqF | exact t_neq | exact t_ext0 | exact t_ext1 | exact t_ext30 | exact t_ext31 | exact t_ext32 | exact t_len | exact t_lenN | exact t_lenR | exact t_idxN | exact t_idx | exact t_load | exact t_fa | exact t_fv | exact t_bl | exact t_sliceG | exact t_sliceLHN | exact t_sliceLN | exact t_sliceHN | exact t_sliceLH | exact t_sliceL | exact t_sliceH | exact t_bs | exact t_quo | exact t_rem | exact t_boxP) ?_ | refine c_opW t_app ?_))
      exact (ih (e ++ [a + 1 + aro l[i] 9], a + 1 + aro l[i] 9, i + 1) ⟨by dsimp only; omega, by dsimp only; omega, by dsimp only; omega, by dsimp only; rw [List.length_append, List.length_singleton]; omega, by dsimp only; rw [List.length_append, List.length_singleton]; omega⟩ (by dsimp only; omega)).sub (by repeat (first | exact trivial | refine ⟨has_rfl rfl, ?_⟩ | refine ⟨has_nil rfl, ?_⟩ | refine ⟨has_nilS rfl, ?_⟩ | refine ⟨has_gr rfl, ?_⟩ | refine ⟨has_int rfl (by first | omega | (simp only [List.length_append, List.length_singleton]; omega)), ?_⟩))
    · (repeat (first | refine c_seq ?_ | refine c_reg ?_ | refine c_rnil ?_ | refine c_block ?_ | refine c_inBlock ?_ | refine c_exit ?_ | refine c_skip ?_ | refine c_label ?_ | refine c_true ?_ | refine c_false ?_ | refine c_yes ?_ | refine c_no ?_ | refine c_op (by first | exact t_call (h := (around_f (by omega))) | exact t_moveG | exact t_move | exact t_moveO | exact t_assignG | exact t_assignO | exact t_assign | exact t_pickT | exact t_pickF | exact t_add | exact t_sub | exact t_neg | exact t_not | exact t_min | exact t_max | exact t_lssT | exact t_lssF | exact t_lss | exact t_leqT | exact t_leqF | exact t_leq | exact t_gtrT | exact t_gtrF | exact t_gtr | exact t_geqT | exact t_geqF | exact t_geq | exact t_eqlT | exact t_eqlF | exact t_eql | exact t_neqT | exact t_neqF | exact t_neq | exact t_ext0 | exact t_ext1 | exact t_ext30 | exact t_ext31 | exact t_ext32 | exact t_len | exact t_lenN | exact t_lenR | exact t_idxN | exact t_idx | exact t_load | exact t_fa | exact t_fv | exact t_bl | exact t_sliceG | exact t_sliceLHN | exact t_sliceLN | exact t_sliceHN | exact t_sliceLH | exact t_sliceL | exact t_sliceH | exact t_bs | exact t_quo | exact t_rem | exact t_boxP) ?_ | refine c_opW t_app ?_))
      exact (ih (e, a + 1 + aro l[i] 9, i + 1) ⟨by dsimp only; omega, by dsimp only; omega, by dsimp only; omega, by dsimp only; omega, hen⟩ (by dsimp only; omega)).sub (by repeat (first | exact trivial | refine ⟨has_rfl rfl, ?_⟩ | refine ⟨has_nil rfl, ?_⟩ | refine ⟨has_nilS rfl, ?_⟩ | refine ⟨has_gr rfl, ?_⟩ | refine ⟨has_int rfl (by first | omega | (simp only [List.length_append, List.length_singleton]; omega)), ?_⟩))
  · have fin : ∀ {M : Mut} {w : World} {v : Value}, (pSl eI (if 0 < n then e ++ [n] else e)).p M w v → (pEx fun e => pAnd (e.length ≤ n + 1) (pSl eI e)).p M w v := fun h => ⟨_, by
      split
      · rw [List.length_append, List.length_singleton]; omega
      · omega, h⟩
    by_cases hp : 0 < n
    · simp only [if_pos hp] at fin
      by_cases hg1 : i < l.length
      · have hg2 : n ≤ a := by omega
        (repeat (first | refine c_seq ?_ | refine c_reg ?_ | refine c_rnil ?_ | refine c_block ?_ | refine c_inBlock ?_ | refine c_exit ?_ | refine c_skip ?_ | refine c_label ?_ | refine c_true ?_ | refine c_false ?_ | refine c_yes ?_ | refine c_no ?_ | refine c_op (by first | exact t_moveG | exact t_move | exact t_moveO | exact t_assignG | exact t_assignO | exact t_assign | exact t_pickT | exact t_pickF | exact t_add | exact t_sub | exact t_neg | exact t_not | exact t_min | exact t_max | exact t_lssT | exact t_lssF | exact t_lss | exact t_leqT | exact t_leqF | exact t_leq | exact t_gtrT | exact t_gtrF | exact t_gtr | exact t_geqT | exact t_geqF | exact t_geq | exact t_eqlT | exact t_eqlF | exact t_eql | exact t_neqT | exact t_neqF | exact t_neq | exact t_ext0 | exact t_ext1 | exact t_ext30 | exact t_ext31 | exact t_ext32 | exact t_len | exact t_lenN | exact t_lenR | exact t_idxN | exact t_idx | exact t_load | exact t_fa | exact t_fv | exact t_bl | exact t_sliceG | exact t_sliceLHN | exact t_sliceLN | exact t_sliceHN | exact t_sliceLH | exact t_sliceL | exact t_sliceH | exact t_bs | exact t_quo | exact t_rem | exact t_boxP) ?_ | refine c_opW t_app ?_))
        refine c_ret1 Try.func32 rfl ?_
        exact fin
      · (repeat (first | refine c_seq ?_ | refine c_reg ?_ | refine c_rnil ?_ | refine c_block ?_ | refine c_inBlock ?_ | refine c_exit ?_ | refine c_skip ?_ | refine c_label ?_ | refine c_true ?_ | refine c_false ?_ | refine c_yes ?_ | refine c_no ?_ | refine c_op (by first | exact t_moveG | exact t_move | exact t_moveO | exact t_assignG | exact t_assignO | exact t_assign | exact t_pickT | exact t_pickF | exact t_add | exact t_sub | exact t_neg | exact t_not | exact t_min | exact t_max | exact t_lssT | exact t_lssF | exact t_lss | exact t_leqT | exact t_leqF | exact t_leq | exact t_gtrT | exact t_gtrF | exact t_gtr | exact t_geqT | exact t_geqF | exact t_geq | exact t_eqlT | exact t_eqlF | exact t_eql | exact t_neqT | exact t_neqF | exact t_neq | exact t_ext0 | exact t_ext1 | exact t_ext30 | exact t_ext31 | exact t_ext32 | exact t_len | exact t_lenN | exact t_lenR | exact t_idxN | exact t_idx | exact t_load | exact t_fa | exact t_fv | exact t_bl | exact t_sliceG | exact t_sliceLHN | exact t_sliceLN | exact t_sliceHN | exact t_sliceLH | exact t_sliceL | exact t_sliceH | exact t_bs | exact t_quo | exact t_rem | exact t_boxP) ?_ | refine c_opW t_app ?_))
        refine c_ret1 Try.func32 rfl ?_
        exact fin
    · simp only [if_neg hp] at fin
      by_cases hg1 : i < l.length
      · have hg2 : n ≤ a := by omega
        (repeat (first | refine c_seq ?_ | refine c_reg ?_ | refine c_rnil ?_ | refine c_block ?_ | refine c_inBlock ?_ | refine c_exit ?_ | refine c_skip ?_ | refine c_label ?_ | refine c_true ?_ | refine c_false ?_ | refine c_yes ?_ | refine c_no ?_ | refine c_op (by first | exact t_moveG | exact t_move | exact t_moveO | exact t_assignG | exact t_assignO | exact t_assign | exact t_pickT | exact t_pickF | exact t_add | exact t_sub | exact t_neg | exact t_not | exact t_min | exact t_max | exact t_lssT | exact t_lssF | exact t_lss | exact t_leqT | exact t_leqF | exact t_leq | exact t_gtrT | exact t_gtrF | exact t_gtr | exact t_geqT | exact t_geqF | exact t_geq | exact t_eqlT | exact t_eqlF | exact t_eql | exact t_neqT | exact t_neqF | exact t_neq | exact t_ext0 | exact t_ext1 | exact t_ext30 | exact t_ext31 | exact t_ext32 | exact t_len | exact t_lenN | exact t_lenR | exact t_idxN | exact t_idx | exact t_load | exact t_fa | exact t_fv | exact t_bl | exact t_sliceG | exact t_sliceLHN | exact t_sliceLN | exact t_sliceHN | exact t_sliceLH | exact t_sliceL | exact t_sliceH | exact t_bs | exact t_quo | exact t_rem | exact t_boxP) ?_ | refine c_opW t_app ?_))
        refine c_ret1 Try.func32 rfl ?_
        exact fin
      · (repeat (first | refine c_seq ?_ | refine c_reg ?_ | refine c_rnil ?_ | refine c_block ?_ | refine c_inBlock ?_ | refine c_exit ?_ | refine c_skip ?_ | refine c_label ?_ | refine c_true ?_ | refine c_false ?_ | refine c_yes ?_ | refine c_no ?_ | refine c_op (by first | exact t_moveG | exact t_move | exact t_moveO | exact t_assignG | exact t_assignO | exact t_assign | exact t_pickT | exact t_pickF | exact t_add | exact t_sub | exact t_neg | exact t_not | exact t_min | exact t_max | exact t_lssT | exact t_lssF | exact t_lss | exact t_leqT | exact t_leqF | exact t_leq | exact t_gtrT | exact t_gtrF | exact t_gtr | exact t_geqT | exact t_geqF | exact t_geq | exact t_eqlT | exact t_eqlF | exact t_eql | exact t_neqT | exact t_neqF | exact t_neq | exact t_ext0 | exact t_ext1 | exact t_ext30 | exact t_ext31 | exact t_ext32 | exact t_len | exact t_lenN | exact t_lenR | exact t_idxN | exact t_idx | exact t_load | exact t_fa | exact t_fv | exact t_bl | exact t_sliceG | exact t_sliceLHN | exact t_sliceLN | exact t_sliceHN | exact t_sliceLH | exact t_sliceL | exact t_sliceH | exact t_bs | exact t_quo | exact t_rem | exact t_boxP) ?_ | refine c_opW t_app ?_))
        refine c_ret1 Try.func32 rfl ?_
        exact fin

end Go.Proofs.Ytocoinkhbjlbhaa
