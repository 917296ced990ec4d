/-
  Walk: the law of the pages' sizes.
-/
import Derived.Test.YtocoinkhbjlbhaaS12
import Derived.Test.YtocoinkhbjlbhaaP27c
namespace Go.Proofs.Ytocoinkhbjlbhaa
open Go Go.RowKit

section
variable {P : Program} {N : Nat} {fr : Fr} {w : World} {Ψ : Value → World → Prop} {d : Option Tmp} {ty : TypeId} {pos : String} {aft : Array Edge} {g : Option (Nat × Bool)}
theorem op_slice_hB {M : Mut} {x hi : Operand} {v : Value} {l : List Int} {t e : TypeId} {k' : IntKind} {n : Int} (ht : P.underlying t = some (.slice e)) (hE : TE P e eI)
    (hx : opv fr x = some v) (hhi : opv fr hi = some (.int k' n)) (hs : SlBg M w v l) (hb : 0 ≤ n ∧ n ≤ l.length) (hn : n ≤ 1000000)
    (h : ∀ v', SlOf eI M w v' (l.take n.toNat) → Ψ v' w) : OP P N ⟨d, .slice t x none (some hi) none, ty, pos, aft, g⟩ fr w Ψ := by
  obtain ⟨a, cap, e1, e2, e3, e4, e6⟩ := hs.ex
  obtain ⟨z, hz, hT⟩ := hE
  have hlen : (l.take n.toNat).length = n.toNat := by rw [List.length_take]; omega
  have hcut : SlOf eI M w (.slice a n.toNat cap) (l.take n.toNat) := by
    refine ⟨a, cap, by rw [hlen], by rw [hlen]; omega, e3, e4, by rw [hlen]; show n.toNat * 8 ≤ _; omega, fun ad ha i hi => ?_⟩
    have hi2 : i < l.length := by omega
    have hg : (l.take n.toNat)[i] = l[i] := List.getElem_take
    rw [hg]
    exact e6 ad ha i hi2
  have b1 : (Instr.sliceBound (.int k' n) cap .sliceAcap).run P w = .ok n.toNat w := run_bound (by omega)
  have ha0 : (if cap = 0 then a else a.map fun x => x.add (0 * eI.sz)) = a := by
    split
    · rfl
    · cases a with
      | none => rfl
      | some ad => simp [Addr.add]
  refine OP.val (w' := w) (v := .slice a n.toNat cap) (fun a' ha => ?_) (h _ hcut)
  simp only [execOp, ha.eval hx, ha.eval hhi, e1, Option.map_some, Option.map_none]
  simp [Instr.sliceAt, Instr.slice, run_underlying ht, Instr.sliceBounds, b1, hT.run_sizeOf (w := w)]
  try simpa using ha0
end

theorem ints03 (M : Mut) (v : Value) (l : List Int) (k : Int) (w : World) (hm : MB M w) (hs : SlBg M w v l) (hk : 0 ≤ k ∧ k ≤ 1000) :
    CallsV Try.prog 30 [v, .int .i64 k] w (fun u w' => Below w.heap.size w w' ∧ ∃ z, SlOf eI M w' u z) := by
  have hr := Rn.refl hm
  refine callsV_of_run Try.func30 rfl Try.ntmps30 (Nat.le_of_ble_eq_true rfl) ?_
  (repeat (first
      | refine run_seq ?_
      | refine run_region_l ?_
      | refine rl_nil ?_
      | refine rl_step (by decide) (op_move rfl ?_)
      | refine rl_step (by decide) (op_assign rfl ?_)
      | refine run_block ?_
      | refine run_inBlock ?_
      | refine run_exit rfl ?_
      | refine run_skip ?_
      | refine run_label ?_
      | refine run_true rfl ?_
      | refine run_false rfl ?_
      | refine rl_yes rfl rfl ?_
      | refine rl_no rfl rfl rfl (by decide) ?_
      | refine rl_step (by decide) (op_pick_t rfl rfl ?_)
      | refine rl_step (by decide) (op_pick_f rfl rfl ?_)
      | refine rl_step (by decide) (op_lss rfl rfl ?_)
      | refine rl_step (by decide) (op_leq rfl rfl ?_)
      | refine rl_step (by decide) (op_gtr rfl rfl ?_)
      | refine rl_step (by decide) (op_geq rfl rfl ?_)
      | refine rl_step (by decide) (op_eql rfl rfl ?_)
      | refine rl_step (by decide) (op_neq rfl rfl ?_)
      | refine rl_step (by decide) (op_not rfl ?_)
      | refine rl_step (by decide) (op_min rfl rfl ?_)
      | refine rl_step (by decide) (op_max rfl rfl ?_)
      | refine rl_step (by decide) (op_extract rfl rfl ?_)
      | refine rl_step (by decide) (op_add rfl rfl (by omega) ?_)
      | refine rl_step (by decide) (op_sub rfl rfl (by omega) ?_)
      | refine rl_step (by decide) (op_neg rfl (by omega) ?_)))
  refine rl_step (by decide) (op_lenB uI rfl hs ?_)
  (repeat (first
      | refine run_seq ?_
      | refine run_region_l ?_
      | refine rl_nil ?_
      | refine rl_step (by decide) (op_move rfl ?_)
      | refine rl_step (by decide) (op_assign rfl ?_)
      | refine run_block ?_
      | refine run_inBlock ?_
      | refine run_exit rfl ?_
      | refine run_skip ?_
      | refine run_label ?_
      | refine run_true rfl ?_
      | refine run_false rfl ?_
      | refine rl_yes rfl rfl ?_
      | refine rl_no rfl rfl rfl (by decide) ?_
      | refine rl_step (by decide) (op_pick_t rfl rfl ?_)
      | refine rl_step (by decide) (op_pick_f rfl rfl ?_)
      | refine rl_step (by decide) (op_lss rfl rfl ?_)
      | refine rl_step (by decide) (op_leq rfl rfl ?_)
      | refine rl_step (by decide) (op_gtr rfl rfl ?_)
      | refine rl_step (by decide) (op_geq rfl rfl ?_)
      | refine rl_step (by decide) (op_eql rfl rfl ?_)
      | refine rl_step (by decide) (op_neq rfl rfl ?_)
      | refine rl_step (by decide) (op_not rfl ?_)
      | refine rl_step (by decide) (op_min rfl rfl ?_)
      | refine rl_step (by decide) (op_max rfl rfl ?_)
      | refine rl_step (by decide) (op_extract rfl rfl ?_)
      | refine rl_step (by decide) (op_add rfl rfl (by omega) ?_)
      | refine rl_step (by decide) (op_sub rfl rfl (by omega) ?_)
      | refine rl_step (by decide) (op_neg rfl (by omega) ?_)))
  refine rl_step (by decide) (op_slice_hB uI teI rfl rfl hs (by omega) (by omega) ?_)
  intro u hu
  refine rl_step (by decide) (op_append (E := eI) (l := []) (tag := 1) uI teI rfl rfl hr (SlOf.nil _ _ _) Grow.nil hu (by rw [List.length_take]; show (0 + _) * 8 ≤ _; omega) ?_)
  intro u' w2 M2 hu' _ hst
  replace hr := hr.st hst
  (repeat (first
      | refine run_seq ?_
      | refine run_region_l ?_
      | refine rl_nil ?_
      | refine rl_step (by decide) (op_move rfl ?_)
      | refine rl_step (by decide) (op_assign rfl ?_)
      | refine run_block ?_
      | refine run_inBlock ?_
      | refine run_exit rfl ?_
      | refine run_skip ?_
      | refine run_label ?_
      | refine run_true rfl ?_
      | refine run_false rfl ?_
      | refine rl_yes rfl rfl ?_
      | refine rl_no rfl rfl rfl (by decide) ?_
      | refine rl_step (by decide) (op_pick_t rfl rfl ?_)
      | refine rl_step (by decide) (op_pick_f rfl rfl ?_)
      | refine rl_step (by decide) (op_lss rfl rfl ?_)
      | refine rl_step (by decide) (op_leq rfl rfl ?_)
      | refine rl_step (by decide) (op_gtr rfl rfl ?_)
      | refine rl_step (by decide) (op_geq rfl rfl ?_)
      | refine rl_step (by decide) (op_eql rfl rfl ?_)
      | refine rl_step (by decide) (op_neq rfl rfl ?_)
      | refine rl_step (by decide) (op_not rfl ?_)
      | refine rl_step (by decide) (op_min rfl rfl ?_)
      | refine rl_step (by decide) (op_max rfl rfl ?_)
      | refine rl_step (by decide) (op_extract rfl rfl ?_)
      | refine rl_step (by decide) (op_add rfl rfl (by omega) ?_)
      | refine rl_step (by decide) (op_sub rfl rfl (by omega) ?_)
      | refine rl_step (by decide) (op_neg rfl (by omega) ?_)))
  refine run_ret1 Try.func30 rfl rfl ?_
  exact ⟨hr.bel, _, hu'.mono hr.fin⟩

set_option maxHeartbeats 2000000 in
theorem shape_w (M : Mut) (w : World) (vl : Value) (l : List Int) (n : Int) (vo : Value) (lo : List Int) (hm : MB M w) (hl : SlBg M w vl l) (hI : I64 n) (hlo : SlBg M w vo lo) :
    CallsV Try.prog 10 [vl, .int .i64 n, vo] w (fun u w' => u = .bool true ∧ Below w.heap.size w w') := by
  have hr := Rn.refl hm
  have ba := aro_bd n 97 (by omega)
  refine callsV_of_run Try.func10 rfl Try.ntmps10 (Nat.le_of_ble_eq_true rfl) ?_
  (repeat (first
      | refine run_seq ?_
      | refine run_region_l ?_
      | refine rl_nil ?_
      | refine rl_step (by decide) (op_move rfl ?_)
      | refine rl_step (by decide) (op_assign rfl ?_)
      | refine run_block ?_
      | refine run_inBlock ?_
      | refine run_exit rfl ?_
      | refine run_skip ?_
      | refine run_label ?_
      | refine run_true rfl ?_
      | refine run_false rfl ?_
      | refine rl_yes rfl rfl ?_
      | refine rl_no rfl rfl rfl (by decide) ?_
      | refine rl_step (by decide) (op_pick_t rfl rfl ?_)
      | refine rl_step (by decide) (op_pick_f rfl rfl ?_)
      | refine rl_step (by decide) (op_lss rfl rfl ?_)
      | refine rl_step (by decide) (op_leq rfl rfl ?_)
      | refine rl_step (by decide) (op_gtr rfl rfl ?_)
      | refine rl_step (by decide) (op_geq rfl rfl ?_)
      | refine rl_step (by decide) (op_eql rfl rfl ?_)
      | refine rl_step (by decide) (op_neq rfl rfl ?_)
      | refine rl_step (by decide) (op_not rfl ?_)
      | refine rl_step (by decide) (op_min rfl rfl ?_)
      | refine rl_step (by decide) (op_max rfl rfl ?_)
      | refine rl_step (by decide) (op_extract rfl rfl ?_)
      | refine rl_step (by decide) (op_add rfl rfl (by omega) ?_)
      | refine rl_step (by decide) (op_sub rfl rfl (by omega) ?_)
      | refine rl_step (by decide) (op_neg rfl (by omega) ?_)))
  refine rl_step (by decide) (op_call ent17 rfl (linesG M _ _ _ hm hl) ?_)
  rintro _ w1 ⟨hbel, vb, vn, body, notes, rfl, hb, hn, hO⟩
  have hs := UpM.of_below (M := M) hbel
  replace hr := hr.up hs
  replace hlo := hlo.mono hs.x
  clear hs hbel hl
  have hlb := hO.lb
  have hln := hO.ln
  (repeat (first
      | refine run_seq ?_
      | refine run_region_l ?_
      | refine rl_nil ?_
      | refine rl_step (by decide) (op_move rfl ?_)
      | refine rl_step (by decide) (op_assign rfl ?_)
      | refine run_block ?_
      | refine run_inBlock ?_
      | refine run_exit rfl ?_
      | refine run_skip ?_
      | refine run_label ?_
      | refine run_true rfl ?_
      | refine run_false rfl ?_
      | refine rl_yes rfl rfl ?_
      | refine rl_no rfl rfl rfl (by decide) ?_
      | refine rl_step (by decide) (op_pick_t rfl rfl ?_)
      | refine rl_step (by decide) (op_pick_f rfl rfl ?_)
      | refine rl_step (by decide) (op_lss rfl rfl ?_)
      | refine rl_step (by decide) (op_leq rfl rfl ?_)
      | refine rl_step (by decide) (op_gtr rfl rfl ?_)
      | refine rl_step (by decide) (op_geq rfl rfl ?_)
      | refine rl_step (by decide) (op_eql rfl rfl ?_)
      | refine rl_step (by decide) (op_neq rfl rfl ?_)
      | refine rl_step (by decide) (op_not rfl ?_)
      | refine rl_step (by decide) (op_min rfl rfl ?_)
      | refine rl_step (by decide) (op_max rfl rfl ?_)
      | refine rl_step (by decide) (op_extract rfl rfl ?_)
      | refine rl_step (by decide) (op_add rfl rfl (by omega) ?_)
      | refine rl_step (by decide) (op_sub rfl rfl (by omega) ?_)
      | refine rl_step (by decide) (op_neg rfl (by omega) ?_)))
  refine (run_loop (α := Nat × Value × List Line × Mut) (fun x => [(1, .int .i64 n), (2, vo), (7, vb), (8, vn), (9, x.2.1), (10, .int .i64 x.1)])
    (fun x w' => x.1 ≤ body.length ∧ Rn M w x.2.2.2 w' ∧ SlBg x.2.2.2 w' vo lo ∧ SlOf eLine x.2.2.2 w' vb body ∧ SlOf (eSl eLine) x.2.2.2 w' vn notes ∧ SlOf eLine x.2.2.2 w' x.2.1 x.2.2.1 ∧ Grow w.heap.size x.2.2.2 w' x.2.1 x.2.2.1.length 4 1 47 ∧
      x.2.2.1.map (·.notes) = (body.take x.1).map (·.notes)) (fun x => body.length - x.1) (0, .slice none 0 0, [], M)
    ⟨Nat.zero_le _, hr, hlo, hb, hn, SlOf.nil _ _ _, Grow.nil, rfl⟩ ?_).sub (by repeat (first | exact trivial | refine ⟨rfl, ?_⟩))
  clear hr hb hn hlo
  rintro ⟨i, vx, xs, M1⟩ w4 ⟨hi, hr, hlo, hb, hn, hx, hgx, hxs⟩ ih
  simp only at hi hr hlo hb hn hx hgx hxs ih
  try dsimp only
  have hxl : xs.length = i := by
    have := congrArg List.length hxs
    simp at this
    omega
  (repeat (first
      | refine run_seq ?_
      | refine run_region_l ?_
      | refine rl_nil ?_
      | refine rl_step (by decide) (op_move rfl ?_)
      | refine rl_step (by decide) (op_assign rfl ?_)
      | refine run_block ?_
      | refine run_inBlock ?_
      | refine run_exit rfl ?_
      | refine run_skip ?_
      | refine run_label ?_
      | refine run_true rfl ?_
      | refine run_false rfl ?_
      | refine rl_yes rfl rfl ?_
      | refine rl_no rfl rfl rfl (by decide) ?_
      | refine rl_step (by decide) (op_pick_t rfl rfl ?_)
      | refine rl_step (by decide) (op_pick_f rfl rfl ?_)
      | refine rl_step (by decide) (op_lss rfl rfl ?_)
      | refine rl_step (by decide) (op_leq rfl rfl ?_)
      | refine rl_step (by decide) (op_gtr rfl rfl ?_)
      | refine rl_step (by decide) (op_geq rfl rfl ?_)
      | refine rl_step (by decide) (op_eql rfl rfl ?_)
      | refine rl_step (by decide) (op_neq rfl rfl ?_)
      | refine rl_step (by decide) (op_not rfl ?_)
      | refine rl_step (by decide) (op_min rfl rfl ?_)
      | refine rl_step (by decide) (op_max rfl rfl ?_)
      | refine rl_step (by decide) (op_extract rfl rfl ?_)
      | refine rl_step (by decide) (op_add rfl rfl (by omega) ?_)
      | refine rl_step (by decide) (op_sub rfl rfl (by omega) ?_)
      | refine rl_step (by decide) (op_neg rfl (by omega) ?_)))
  refine rl_step (by decide) (op_len uL rfl hb ?_)
  (repeat (first
      | refine run_seq ?_
      | refine run_region_l ?_
      | refine rl_nil ?_
      | refine rl_step (by decide) (op_move rfl ?_)
      | refine rl_step (by decide) (op_assign rfl ?_)
      | refine run_block ?_
      | refine run_inBlock ?_
      | refine run_exit rfl ?_
      | refine run_skip ?_
      | refine run_label ?_
      | refine run_true rfl ?_
      | refine run_false rfl ?_
      | refine rl_yes rfl rfl ?_
      | refine rl_no rfl rfl rfl (by decide) ?_
      | refine rl_step (by decide) (op_pick_t rfl rfl ?_)
      | refine rl_step (by decide) (op_pick_f rfl rfl ?_)
      | refine rl_step (by decide) (op_lss rfl rfl ?_)
      | refine rl_step (by decide) (op_leq rfl rfl ?_)
      | refine rl_step (by decide) (op_gtr rfl rfl ?_)
      | refine rl_step (by decide) (op_geq rfl rfl ?_)
      | refine rl_step (by decide) (op_eql rfl rfl ?_)
      | refine rl_step (by decide) (op_neq rfl rfl ?_)
      | refine rl_step (by decide) (op_not rfl ?_)
      | refine rl_step (by decide) (op_min rfl rfl ?_)
      | refine rl_step (by decide) (op_max rfl rfl ?_)
      | refine rl_step (by decide) (op_extract rfl rfl ?_)
      | refine rl_step (by decide) (op_add rfl rfl (by omega) ?_)
      | refine rl_step (by decide) (op_sub rfl rfl (by omega) ?_)
      | refine rl_step (by decide) (op_neg rfl (by omega) ?_)))
  refine run_if rfl (fun hlt => ?_) (fun hlt => ?_)
  · have hlt' : i < body.length := by omega
    (repeat (first
        | refine run_seq ?_
        | refine run_region_l ?_
        | refine rl_nil ?_
        | refine rl_step (by decide) (op_move rfl ?_)
        | refine rl_step (by decide) (op_assign rfl ?_)
        | refine run_block ?_
        | refine run_inBlock ?_
        | refine run_exit rfl ?_
        | refine run_skip ?_
        | refine run_label ?_
        | refine run_true rfl ?_
        | refine run_false rfl ?_
        | refine rl_yes rfl rfl ?_
        | refine rl_no rfl rfl rfl (by decide) ?_
        | refine rl_step (by decide) (op_pick_t rfl rfl ?_)
        | refine rl_step (by decide) (op_pick_f rfl rfl ?_)
        | refine rl_step (by decide) (op_lss rfl rfl ?_)
        | refine rl_step (by decide) (op_leq rfl rfl ?_)
        | refine rl_step (by decide) (op_gtr rfl rfl ?_)
        | refine rl_step (by decide) (op_geq rfl rfl ?_)
        | refine rl_step (by decide) (op_eql rfl rfl ?_)
        | refine rl_step (by decide) (op_neq rfl rfl ?_)
        | refine rl_step (by decide) (op_not rfl ?_)
        | refine rl_step (by decide) (op_min rfl rfl ?_)
        | refine rl_step (by decide) (op_max rfl rfl ?_)
        | refine rl_step (by decide) (op_extract rfl rfl ?_)
        | refine rl_step (by decide) (op_add rfl rfl (by omega) ?_)
        | refine rl_step (by decide) (op_sub rfl rfl (by omega) ?_)
        | refine rl_step (by decide) (op_neg rfl (by omega) ?_)))
    refine region_dr (M := M1) 13 2 [] mixed rfl (by kernel_rfl) (fun w1 hs1 => ?_)
    replace hlo := hlo.mono hs1.x
    replace hb := hb.mono hs1.x
    replace hn := hn.mono hs1.x
    replace hx := hx.mono hs1.x
    replace hr := hr.up hs1
    replace hgx := hgx.up hs1
    clear hs1
    refine dr_cons (isv _) (by decide) (mono_isv _) (ob0 rfl fun M w hs => opg (op_move rfl ⟨_, UpM.refl _ _, rfl⟩)) ?_
    refine dr_cons (isv _) (by decide) (mono_isv _) (ob0 rfl fun M w hs => opg (op_move rfl ⟨_, UpM.refl _ _, rfl⟩)) ?_
    refine dr_cons (isv _) (by decide) (mono_isv _) (ob0 rfl fun M w hs => opg (op_move rfl ⟨_, UpM.refl _ _, rfl⟩)) ?_
    refine dr_cons (fun M w v => ∃ r, v = .int .i64 r ∧ 0 ≤ r ∧ r < 1000) (by decide) (fun _ _ _ _ _ _ h => h) (ob2 rfl fun M w' hs2 v1 k1 v2 k2 => ?_) ?_
    · cases k1; cases k2
      exact opg (op_call ent29 rfl (pick03 M vo lo i 1000 w' (hlo.mono hs2.x) (by omega)) fun u w2 hu => ⟨M, by rw [hu.2]; exact UpM.refl _ _, hu.1⟩)
    refine dr_cons (isv _) (by decide) (mono_isv _) (ob0 rfl fun M w hs => opg (op_move rfl ⟨_, UpM.refl _ _, rfl⟩)) ?_
    refine dr_cons (fun M w v => ∃ z, SlOf eI M w v z) (by decide) (fun _ _ _ _ _ s ⟨z, h⟩ => ⟨z, h.mono s.x⟩) (ob1 rfl fun M w' hs2 v1 k1 => ?_) ?_
    · cases k1
      exact opg (op_call ent30 rfl (ints03 M vo lo 5 w' (hs2.mb hr.mb) (hlo.mono hs2.x) (by omega)) fun u w2 hu => ⟨_, UpM.of_below hu.1, hu.2⟩)
    refine dr_cons (isv _) (by decide) (mono_isv _) (ob0 rfl fun M w hs => opg (op_move rfl ⟨_, UpM.refl _ _, rfl⟩)) ?_
    refine dr_cons (isv _) (by decide) (mono_isv _) (ob0 rfl fun M w hs => opg (op_move rfl ⟨_, UpM.refl _ _, rfl⟩)) ?_
    refine dr_cons (isPtr eLine body[i]) (by decide) (mono_isPtr _ _) (ob2 rfl fun M w' hs2 v1 k1 v2 k2 => ?_) ?_
    · cases k1; cases k2; exact opg (op_indexAddr uL teL rfl rfl (hb.mono hs2.x) (by omega) fun ad hn he => ⟨_, UpM.refl _ _, ad, rfl, he⟩)
    refine dr_cons (isPtr (eSl eI) body[i].notes) (by decide) (mono_isPtr _ _) (ob1 rfl fun M w' hs2 v1 k1 => ?_) ?_
    · obtain ⟨ad1, rfl, he1⟩ := k1; exact opg (op_fieldAddr fdL3 rfl ⟨_, UpM.refl _ _, _, rfl, he1.line.2.2.2⟩)
    refine dr_cons (isSl eI body[i].notes) (by decide) (mono_isSl _ _) (ob1 rfl fun M w' hs2 v1 k1 => ?_) ?_
    · obtain ⟨ad1, rfl, he1⟩ := k1; exact opg (op_load teSI rfl he1 fun u hu => ⟨_, UpM.refl _ _, eSl_V.1 hu⟩)
    refine dr_cons (fun M w v => ∃ L, eLine.V M w v L ∧ L.notes = body[i].notes) (by decide) (fun _ _ _ _ _ s ⟨L, h, h2⟩ => ⟨L, h.mono s.x, h2⟩) (ob3 rfl fun M w' hs2 v1 k1 v2 k2 v3 k3 => ?_) ?_
    · obtain ⟨r, rfl, hr1, hr2⟩ := k1
      obtain ⟨z, k2⟩ := k2
      obtain ⟨a1, c1, q1, _⟩ := SlOf.ex k2
      obtain ⟨a2, c2, q2, _⟩ := SlOf.ex k3
      refine opg (op_build (parts := [(0, .tmp 34), (2, .tmp 36), (3, .tmp 41)]) (vs := [.int .i64 r, v2, v3]) (pl := [(0, [.int .i64 r]), (2, [v2]), (3, [v3])]) sbL rfl ⟨rfl, rfl, Nat.le_of_ble_eq_true rfl, rfl, by rw [q1]; rfl, Nat.le_of_ble_eq_true rfl, rfl, by rw [q2]; rfl, Nat.le_of_ble_eq_true rfl, trivial⟩ ⟨_, UpM.refl _ _, ⟨r, 0, z, body[i].notes⟩, ?_, rfl⟩)
      exact eLine_V.2 ⟨v2, v3, rfl, by unfold I64; simp only; omega, by unfold I64; simp, k2, k3⟩
    refine dr_cons (fun M w v => ∃ L, SlOf eLine M w v [L] ∧ L.notes = body[i].notes) (by decide) (fun _ _ _ _ _ s ⟨L, h, h2⟩ => ⟨L, h.mono s.x, h2⟩) (ob1 rfl fun M w' hs2 v1 k1 => ?_) ?_
    · obtain ⟨L, k1, hL⟩ := k1
      exact opg (op_buildSlice (E := eLine) (n := 1) (parts := [(0, .tmp 42)]) (vs := [v1]) (l := [L]) uL teL (hr.up hs2) rfl rfl ⟨k1, trivial⟩ rfl ⟨Nat.le_of_ble_eq_true rfl, Nat.le_of_ble_eq_true rfl⟩ fun u w2 hu _ hbel => ⟨_, UpM.of_below hbel, L, hu, hL⟩)
    refine dr_nil rfl (fun M3 w5 val hs2 hall => ?_)
    obtain ⟨⟨L, h43, hL⟩, _, _, _, _, _, _, _, _, _, _, _, h31, _⟩ := hall
    have e31 : val 31 = _ := h31
    replace hlo := hlo.mono hs2.x
    replace hb := hb.mono hs2.x
    replace hn := hn.mono hs2.x
    replace hx := hx.mono hs2.x
    replace hr := hr.up hs2
    replace hgx := hgx.up hs2
    refine RT.sub (fr' := [(1, .int .i64 n), (2, vo), (7, vb), (8, vn), (10, .int .i64 i), (31, val 31), (43, val 43)]) ?_ (by repeat (first | exact trivial | refine ⟨rfl, ?_⟩))
    rw [e31]
    generalize val 43 = v43 at h43
    clear hs2 h31 e31
    refine rt_one (i := 13) (by kernel_rfl) rfl (by decide) (op_append (E := eLine) (tag := 1) uL teL rfl rfl hr hx hgx h43 (by show (xs.length + 1) * 64 ≤ _; omega) ?_)
    intro vx' w6 M6 hx2 hgx2 hst
    replace hlo := hlo.mono hst.x
    replace hb := hb.mono hst.x
    replace hn := hn.mono hst.x
    replace hr := hr.st hst
    clear hst h43
    refine rt_one (i := 14) (by kernel_rfl) rfl (by decide) (op_assign rfl ?_)
    refine rt_nil (by kernel_rfl) ?_
    (repeat (first
        | refine run_seq ?_
        | refine run_region_l ?_
        | refine rl_nil ?_
        | refine rl_step (by decide) (op_move rfl ?_)
        | refine rl_step (by decide) (op_assign rfl ?_)
        | refine run_block ?_
        | refine run_inBlock ?_
        | refine run_exit rfl ?_
        | refine run_skip ?_
        | refine run_label ?_
        | refine run_true rfl ?_
        | refine run_false rfl ?_
        | refine rl_yes rfl rfl ?_
        | refine rl_no rfl rfl rfl (by decide) ?_
        | refine rl_step (by decide) (op_pick_t rfl rfl ?_)
        | refine rl_step (by decide) (op_pick_f rfl rfl ?_)
        | refine rl_step (by decide) (op_lss rfl rfl ?_)
        | refine rl_step (by decide) (op_leq rfl rfl ?_)
        | refine rl_step (by decide) (op_gtr rfl rfl ?_)
        | refine rl_step (by decide) (op_geq rfl rfl ?_)
        | refine rl_step (by decide) (op_eql rfl rfl ?_)
        | refine rl_step (by decide) (op_neq rfl rfl ?_)
        | refine rl_step (by decide) (op_not rfl ?_)
        | refine rl_step (by decide) (op_min rfl rfl ?_)
        | refine rl_step (by decide) (op_max rfl rfl ?_)
        | refine rl_step (by decide) (op_extract rfl rfl ?_)
        | refine rl_step (by decide) (op_add rfl rfl (by omega) ?_)
        | refine rl_step (by decide) (op_sub rfl rfl (by omega) ?_)
        | refine rl_step (by decide) (op_neg rfl (by omega) ?_)))
    refine (ih (i + 1, vx', xs ++ [L], M6) _ ⟨by simp only; omega, hr, hlo, hb, hn, hx2, hgx2, ?_⟩ (by simp only; omega)).sub (by repeat (first | exact trivial | refine ⟨rfl, ?_⟩))
    simp only
    rw [List.map_append, hxs, List.take_succ_eq_append_getElem hlt', List.map_append, List.map_singleton, List.map_singleton, hL]
  have hie : i = body.length := by omega
  rw [hie, List.take_length] at hxs
  clear ih hgx hlt hi
  (repeat (first
      | refine run_seq ?_
      | refine run_region_l ?_
      | refine rl_nil ?_
      | refine rl_step (by decide) (op_move rfl ?_)
      | refine rl_step (by decide) (op_assign rfl ?_)
      | refine run_block ?_
      | refine run_inBlock ?_
      | refine run_exit rfl ?_
      | refine run_skip ?_
      | refine run_label ?_
      | refine run_true rfl ?_
      | refine run_false rfl ?_
      | refine rl_yes rfl rfl ?_
      | refine rl_no rfl rfl rfl (by decide) ?_
      | refine rl_step (by decide) (op_pick_t rfl rfl ?_)
      | refine rl_step (by decide) (op_pick_f rfl rfl ?_)
      | refine rl_step (by decide) (op_lss rfl rfl ?_)
      | refine rl_step (by decide) (op_leq rfl rfl ?_)
      | refine rl_step (by decide) (op_gtr rfl rfl ?_)
      | refine rl_step (by decide) (op_geq rfl rfl ?_)
      | refine rl_step (by decide) (op_eql rfl rfl ?_)
      | refine rl_step (by decide) (op_neq rfl rfl ?_)
      | refine rl_step (by decide) (op_not rfl ?_)
      | refine rl_step (by decide) (op_min rfl rfl ?_)
      | refine rl_step (by decide) (op_max rfl rfl ?_)
      | refine rl_step (by decide) (op_extract rfl rfl ?_)
      | refine rl_step (by decide) (op_add rfl rfl (by omega) ?_)
      | refine rl_step (by decide) (op_sub rfl rfl (by omega) ?_)
      | refine rl_step (by decide) (op_neg rfl (by omega) ?_)))
  refine (run_loop (α := Nat × Value × List (List Line) × Mut) (fun x => [(1, .int .i64 n), (2, vo), (7, vb), (8, vn), (9, vx), (11, x.2.1), (12, .int .i64 x.1)])
    (fun x w' => x.1 ≤ notes.length ∧ Rn M w x.2.2.2 w' ∧ SlBg x.2.2.2 w' vo lo ∧ SlOf eLine x.2.2.2 w' vb body ∧ SlOf (eSl eLine) x.2.2.2 w' vn notes ∧ SlOf eLine x.2.2.2 w' vx xs ∧ SlOf (eSl eLine) x.2.2.2 w' x.2.1 x.2.2.1 ∧ Grow w.heap.size x.2.2.2 w' x.2.1 x.2.2.1.length 1 2 23 ∧
      x.2.2.1.map List.length = (notes.take x.1).map List.length) (fun x => notes.length - x.1) (0, .slice none 0 0, [], M1)
    ⟨Nat.zero_le _, hr, hlo, hb, hn, hx, SlOf.nil _ _ _, Grow.nil, rfl⟩ ?_).sub (by repeat (first | exact trivial | refine ⟨rfl, ?_⟩))
  clear hr hb hn hlo hx
  rintro ⟨j, vy, ys, M2⟩ w5 ⟨hj, hr, hlo, hb, hn, hx, hy, hgy, hys⟩ ih
  simp only at hj hr hlo hb hn hx hy hgy hys ih
  try dsimp only
  have hyl : ys.length = j := by
    have := congrArg List.length hys
    simp at this
    omega
  (repeat (first
      | refine run_seq ?_
      | refine run_region_l ?_
      | refine rl_nil ?_
      | refine rl_step (by decide) (op_move rfl ?_)
      | refine rl_step (by decide) (op_assign rfl ?_)
      | refine run_block ?_
      | refine run_inBlock ?_
      | refine run_exit rfl ?_
      | refine run_skip ?_
      | refine run_label ?_
      | refine run_true rfl ?_
      | refine run_false rfl ?_
      | refine rl_yes rfl rfl ?_
      | refine rl_no rfl rfl rfl (by decide) ?_
      | refine rl_step (by decide) (op_pick_t rfl rfl ?_)
      | refine rl_step (by decide) (op_pick_f rfl rfl ?_)
      | refine rl_step (by decide) (op_lss rfl rfl ?_)
      | refine rl_step (by decide) (op_leq rfl rfl ?_)
      | refine rl_step (by decide) (op_gtr rfl rfl ?_)
      | refine rl_step (by decide) (op_geq rfl rfl ?_)
      | refine rl_step (by decide) (op_eql rfl rfl ?_)
      | refine rl_step (by decide) (op_neq rfl rfl ?_)
      | refine rl_step (by decide) (op_not rfl ?_)
      | refine rl_step (by decide) (op_min rfl rfl ?_)
      | refine rl_step (by decide) (op_max rfl rfl ?_)
      | refine rl_step (by decide) (op_extract rfl rfl ?_)
      | refine rl_step (by decide) (op_add rfl rfl (by omega) ?_)
      | refine rl_step (by decide) (op_sub rfl rfl (by omega) ?_)
      | refine rl_step (by decide) (op_neg rfl (by omega) ?_)))
  refine rl_step (by decide) (op_len uLL rfl hn ?_)
  (repeat (first
      | refine run_seq ?_
      | refine run_region_l ?_
      | refine rl_nil ?_
      | refine rl_step (by decide) (op_move rfl ?_)
      | refine rl_step (by decide) (op_assign rfl ?_)
      | refine run_block ?_
      | refine run_inBlock ?_
      | refine run_exit rfl ?_
      | refine run_skip ?_
      | refine run_label ?_
      | refine run_true rfl ?_
      | refine run_false rfl ?_
      | refine rl_yes rfl rfl ?_
      | refine rl_no rfl rfl rfl (by decide) ?_
      | refine rl_step (by decide) (op_pick_t rfl rfl ?_)
      | refine rl_step (by decide) (op_pick_f rfl rfl ?_)
      | refine rl_step (by decide) (op_lss rfl rfl ?_)
      | refine rl_step (by decide) (op_leq rfl rfl ?_)
      | refine rl_step (by decide) (op_gtr rfl rfl ?_)
      | refine rl_step (by decide) (op_geq rfl rfl ?_)
      | refine rl_step (by decide) (op_eql rfl rfl ?_)
      | refine rl_step (by decide) (op_neq rfl rfl ?_)
      | refine rl_step (by decide) (op_not rfl ?_)
      | refine rl_step (by decide) (op_min rfl rfl ?_)
      | refine rl_step (by decide) (op_max rfl rfl ?_)
      | refine rl_step (by decide) (op_extract rfl rfl ?_)
      | refine rl_step (by decide) (op_add rfl rfl (by omega) ?_)
      | refine rl_step (by decide) (op_sub rfl rfl (by omega) ?_)
      | refine rl_step (by decide) (op_neg rfl (by omega) ?_)))
  refine run_if rfl (fun hlt => ?_) (fun hlt => ?_)
  · have hlt' : j < notes.length := by omega
    have hn9 := (hO.nn notes[j] (List.getElem_mem hlt')).2
    (repeat (first
        | refine run_seq ?_
        | refine run_region_l ?_
        | refine rl_nil ?_
        | refine rl_step (by decide) (op_move rfl ?_)
        | refine rl_step (by decide) (op_assign rfl ?_)
        | refine run_block ?_
        | refine run_inBlock ?_
        | refine run_exit rfl ?_
        | refine run_skip ?_
        | refine run_label ?_
        | refine run_true rfl ?_
        | refine run_false rfl ?_
        | refine rl_yes rfl rfl ?_
        | refine rl_no rfl rfl rfl (by decide) ?_
        | refine rl_step (by decide) (op_pick_t rfl rfl ?_)
        | refine rl_step (by decide) (op_pick_f rfl rfl ?_)
        | refine rl_step (by decide) (op_lss rfl rfl ?_)
        | refine rl_step (by decide) (op_leq rfl rfl ?_)
        | refine rl_step (by decide) (op_gtr rfl rfl ?_)
        | refine rl_step (by decide) (op_geq rfl rfl ?_)
        | refine rl_step (by decide) (op_eql rfl rfl ?_)
        | refine rl_step (by decide) (op_neq rfl rfl ?_)
        | refine rl_step (by decide) (op_not rfl ?_)
        | refine rl_step (by decide) (op_min rfl rfl ?_)
        | refine rl_step (by decide) (op_max rfl rfl ?_)
        | refine rl_step (by decide) (op_extract rfl rfl ?_)
        | refine rl_step (by decide) (op_add rfl rfl (by omega) ?_)
        | refine rl_step (by decide) (op_sub rfl rfl (by omega) ?_)
        | refine rl_step (by decide) (op_neg rfl (by omega) ?_)))
    refine (run_loop (α := Value × List Line × Mut) (fun x => [(1, .int .i64 n), (2, vo), (7, vb), (8, vn), (9, vx), (11, vy), (12, .int .i64 j), (13, x.1), (14, .int .i64 x.2.1.length)])
      (fun x w' => x.2.1.length ≤ notes[j].length ∧ Rn M w x.2.2 w' ∧ SlBg x.2.2 w' vo lo ∧ SlOf eLine x.2.2 w' vb body ∧ SlOf (eSl eLine) x.2.2 w' vn notes ∧ SlOf eLine x.2.2 w' vx xs ∧ SlOf (eSl eLine) x.2.2 w' vy ys ∧ Grow w.heap.size x.2.2 w' vy ys.length 1 2 23 ∧
        SlOf eLine x.2.2 w' x.1 x.2.1 ∧ Grow w.heap.size x.2.2 w' x.1 x.2.1.length 4 3 47) (fun x => notes[j].length - x.2.1.length) (.slice none 0 0, [], M2)
      ⟨Nat.zero_le _, hr, hlo, hb, hn, hx, hy, hgy, SlOf.nil _ _ _, Grow.nil⟩ ?_).sub (by repeat (first | exact trivial | refine ⟨rfl, ?_⟩))
    clear hr hlo hb hn hx hy hgy
    rintro ⟨vz, zs, M3⟩ w6 ⟨hzl, hr, hlo, hb, hn, hx, hy, hgy, hz, hgz⟩ ih2
    simp only at hzl hr hlo hb hn hx hy hgy hz hgz ih2
    try dsimp only
    (repeat (first
        | refine run_seq ?_
        | refine run_region_l ?_
        | refine rl_nil ?_
        | refine rl_step (by decide) (op_move rfl ?_)
        | refine rl_step (by decide) (op_assign rfl ?_)
        | refine run_block ?_
        | refine run_inBlock ?_
        | refine run_exit rfl ?_
        | refine run_skip ?_
        | refine run_label ?_
        | refine run_true rfl ?_
        | refine run_false rfl ?_
        | refine rl_yes rfl rfl ?_
        | refine rl_no rfl rfl rfl (by decide) ?_
        | refine rl_step (by decide) (op_pick_t rfl rfl ?_)
        | refine rl_step (by decide) (op_pick_f rfl rfl ?_)
        | refine rl_step (by decide) (op_lss rfl rfl ?_)
        | refine rl_step (by decide) (op_leq rfl rfl ?_)
        | refine rl_step (by decide) (op_gtr rfl rfl ?_)
        | refine rl_step (by decide) (op_geq rfl rfl ?_)
        | refine rl_step (by decide) (op_eql rfl rfl ?_)
        | refine rl_step (by decide) (op_neq rfl rfl ?_)
        | refine rl_step (by decide) (op_not rfl ?_)
        | refine rl_step (by decide) (op_min rfl rfl ?_)
        | refine rl_step (by decide) (op_max rfl rfl ?_)
        | refine rl_step (by decide) (op_extract rfl rfl ?_)
        | refine rl_step (by decide) (op_add rfl rfl (by omega) ?_)
        | refine rl_step (by decide) (op_sub rfl rfl (by omega) ?_)
        | refine rl_step (by decide) (op_neg rfl (by omega) ?_)))
    refine rl_step (by decide) (op_indexAddr uLL teSL rfl rfl hn (by omega) ?_)
    intro ad _ he
    refine rl_step (by decide) (op_load teSL rfl he ?_)
    intro u hu2
    rw [eSl_V] at hu2
    refine rl_step (by decide) (op_len uL rfl hu2 ?_)
    clear hu2 he
    simp only [Int.toNat_natCast]
    (repeat (first
        | refine run_seq ?_
        | refine run_region_l ?_
        | refine rl_nil ?_
        | refine rl_step (by decide) (op_move rfl ?_)
        | refine rl_step (by decide) (op_assign rfl ?_)
        | refine run_block ?_
        | refine run_inBlock ?_
        | refine run_exit rfl ?_
        | refine run_skip ?_
        | refine run_label ?_
        | refine run_true rfl ?_
        | refine run_false rfl ?_
        | refine rl_yes rfl rfl ?_
        | refine rl_no rfl rfl rfl (by decide) ?_
        | refine rl_step (by decide) (op_pick_t rfl rfl ?_)
        | refine rl_step (by decide) (op_pick_f rfl rfl ?_)
        | refine rl_step (by decide) (op_lss rfl rfl ?_)
        | refine rl_step (by decide) (op_leq rfl rfl ?_)
        | refine rl_step (by decide) (op_gtr rfl rfl ?_)
        | refine rl_step (by decide) (op_geq rfl rfl ?_)
        | refine rl_step (by decide) (op_eql rfl rfl ?_)
        | refine rl_step (by decide) (op_neq rfl rfl ?_)
        | refine rl_step (by decide) (op_not rfl ?_)
        | refine rl_step (by decide) (op_min rfl rfl ?_)
        | refine rl_step (by decide) (op_max rfl rfl ?_)
        | refine rl_step (by decide) (op_extract rfl rfl ?_)
        | refine rl_step (by decide) (op_add rfl rfl (by omega) ?_)
        | refine rl_step (by decide) (op_sub rfl rfl (by omega) ?_)
        | refine rl_step (by decide) (op_neg rfl (by omega) ?_)))
    refine run_if rfl (fun hml => ?_) (fun hml => ?_)
    · (repeat (first
          | refine run_seq ?_
          | refine run_region_l ?_
          | refine rl_nil ?_
          | refine rl_step (by decide) (op_move rfl ?_)
          | refine rl_step (by decide) (op_assign rfl ?_)
          | refine run_block ?_
          | refine run_inBlock ?_
          | refine run_exit rfl ?_
          | refine run_skip ?_
          | refine run_label ?_
          | refine run_true rfl ?_
          | refine run_false rfl ?_
          | refine rl_yes rfl rfl ?_
          | refine rl_no rfl rfl rfl (by decide) ?_
          | refine rl_step (by decide) (op_pick_t rfl rfl ?_)
          | refine rl_step (by decide) (op_pick_f rfl rfl ?_)
          | refine rl_step (by decide) (op_lss rfl rfl ?_)
          | refine rl_step (by decide) (op_leq rfl rfl ?_)
          | refine rl_step (by decide) (op_gtr rfl rfl ?_)
          | refine rl_step (by decide) (op_geq rfl rfl ?_)
          | refine rl_step (by decide) (op_eql rfl rfl ?_)
          | refine rl_step (by decide) (op_neq rfl rfl ?_)
          | refine rl_step (by decide) (op_not rfl ?_)
          | refine rl_step (by decide) (op_min rfl rfl ?_)
          | refine rl_step (by decide) (op_max rfl rfl ?_)
          | refine rl_step (by decide) (op_extract rfl rfl ?_)
          | refine rl_step (by decide) (op_add rfl rfl (by omega) ?_)
          | refine rl_step (by decide) (op_sub rfl rfl (by omega) ?_)
          | refine rl_step (by decide) (op_neg rfl (by omega) ?_)))
      refine rl_step (by decide) (op_call ent29 rfl (pick03 M3 vo lo zs.length 1000 w6 hlo (by omega)) ?_)
      rintro _ w7 ⟨⟨r, rfl, hr1, hr2⟩, rfl⟩
      (repeat (first
          | refine run_seq ?_
          | refine run_region_l ?_
          | refine rl_nil ?_
          | refine rl_step (by decide) (op_move rfl ?_)
          | refine rl_step (by decide) (op_assign rfl ?_)
          | refine run_block ?_
          | refine run_inBlock ?_
          | refine run_exit rfl ?_
          | refine run_skip ?_
          | refine run_label ?_
          | refine run_true rfl ?_
          | refine run_false rfl ?_
          | refine rl_yes rfl rfl ?_
          | refine rl_no rfl rfl rfl (by decide) ?_
          | refine rl_step (by decide) (op_pick_t rfl rfl ?_)
          | refine rl_step (by decide) (op_pick_f rfl rfl ?_)
          | refine rl_step (by decide) (op_lss rfl rfl ?_)
          | refine rl_step (by decide) (op_leq rfl rfl ?_)
          | refine rl_step (by decide) (op_gtr rfl rfl ?_)
          | refine rl_step (by decide) (op_geq rfl rfl ?_)
          | refine rl_step (by decide) (op_eql rfl rfl ?_)
          | refine rl_step (by decide) (op_neq rfl rfl ?_)
          | refine rl_step (by decide) (op_not rfl ?_)
          | refine rl_step (by decide) (op_min rfl rfl ?_)
          | refine rl_step (by decide) (op_max rfl rfl ?_)
          | refine rl_step (by decide) (op_extract rfl rfl ?_)
          | refine rl_step (by decide) (op_add rfl rfl (by omega) ?_)
          | refine rl_step (by decide) (op_sub rfl rfl (by omega) ?_)
          | refine rl_step (by decide) (op_neg rfl (by omega) ?_)))
      refine rl_step (by decide) (op_call ent30 rfl (ints03 M3 vo lo 3 w7 hr.mb hlo (by omega)) ?_)
      rintro v65 w8 ⟨hbel, z, h65⟩
      have hs := UpM.of_below (M := M3) hbel
      replace hlo := hlo.mono hs.x
      replace hb := hb.mono hs.x
      replace hn := hn.mono hs.x
      replace hx := hx.mono hs.x
      replace hy := hy.mono hs.x
      replace hz := hz.mono hs.x
      replace hr := hr.up hs
      replace hgy := hgy.up hs
      replace hgz := hgz.up hs
      clear hs hbel
      obtain ⟨a1, c1, q1, _⟩ := SlOf.ex h65
      refine rl_step (by decide) (op_build (parts := [(1, .tmp 63), (3, .tmp 65)]) (vs := [.int .i64 r, v65]) (pl := [(1, [.int .i64 r]), (3, [v65])]) sbL rfl ⟨rfl, rfl, Nat.le_of_ble_eq_true rfl, rfl, by rw [q1]; rfl, Nat.le_of_ble_eq_true rfl, trivial⟩ ?_)
      refine rl_step (by decide) (op_buildSlice (E := eLine) (n := 1) (parts := [(0, .tmp 66)]) (vs := [.agg #[.int .i64 0, .int .i64 r, .slice none 0 0, v65]]) (l := [⟨0, r, [], z⟩]) uL teL hr rfl rfl
        ⟨eLine_V.2 ⟨_, _, rfl, by unfold I64; simp, by unfold I64; simp only; omega, SlOf.nil _ _ _, h65⟩, trivial⟩ rfl ⟨Nat.le_of_ble_eq_true rfl, Nat.le_of_ble_eq_true rfl⟩ ?_)
      intro u w9 hu _ hbel
      have hs := UpM.of_below (M := M3) hbel
      replace hlo := hlo.mono hs.x
      replace hb := hb.mono hs.x
      replace hn := hn.mono hs.x
      replace hx := hx.mono hs.x
      replace hy := hy.mono hs.x
      replace hz := hz.mono hs.x
      replace hr := hr.up hs
      replace hgy := hgy.up hs
      replace hgz := hgz.up hs
      clear hs hbel
      refine rl_step (by decide) (op_append (E := eLine) (tag := 3) uL teL rfl rfl hr hz hgz hu (by show (zs.length + 1) * 64 ≤ _; omega) ?_)
      intro vz' w10 M6 hz2 hgz2 hst
      replace hlo := hlo.mono hst.x
      replace hb := hb.mono hst.x
      replace hn := hn.mono hst.x
      replace hx := hx.mono hst.x
      replace hy := hy.mono hst.x
      replace hr := hr.st hst
      replace hgy := hgy.st hst (by decide)
      clear hst hu
      (repeat (first
          | refine run_seq ?_
          | refine run_region_l ?_
          | refine rl_nil ?_
          | refine rl_step (by decide) (op_move rfl ?_)
          | refine rl_step (by decide) (op_assign rfl ?_)
          | refine run_block ?_
          | refine run_inBlock ?_
          | refine run_exit rfl ?_
          | refine run_skip ?_
          | refine run_label ?_
          | refine run_true rfl ?_
          | refine run_false rfl ?_
          | refine rl_yes rfl rfl ?_
          | refine rl_no rfl rfl rfl (by decide) ?_
          | refine rl_step (by decide) (op_pick_t rfl rfl ?_)
          | refine rl_step (by decide) (op_pick_f rfl rfl ?_)
          | refine rl_step (by decide) (op_lss rfl rfl ?_)
          | refine rl_step (by decide) (op_leq rfl rfl ?_)
          | refine rl_step (by decide) (op_gtr rfl rfl ?_)
          | refine rl_step (by decide) (op_geq rfl rfl ?_)
          | refine rl_step (by decide) (op_eql rfl rfl ?_)
          | refine rl_step (by decide) (op_neq rfl rfl ?_)
          | refine rl_step (by decide) (op_not rfl ?_)
          | refine rl_step (by decide) (op_min rfl rfl ?_)
          | refine rl_step (by decide) (op_max rfl rfl ?_)
          | refine rl_step (by decide) (op_extract rfl rfl ?_)
          | refine rl_step (by decide) (op_add rfl rfl (by omega) ?_)
          | refine rl_step (by decide) (op_sub rfl rfl (by omega) ?_)
          | refine rl_step (by decide) (op_neg rfl (by omega) ?_)))
      refine (ih2 (vz', zs ++ [⟨0, r, [], z⟩], M6) _ ⟨by simp; omega, hr, hlo, hb, hn, hx, hy, hgy, hz2, hgz2⟩ (by simp; omega)).sub ?_
      exact ⟨rfl, rfl, rfl, rfl, rfl, rfl, rfl, rfl, look_int rfl (by simp), trivial⟩
    · have hze : zs.length = notes[j].length := by omega
      (repeat (first
          | refine run_seq ?_
          | refine run_region_l ?_
          | refine rl_nil ?_
          | refine rl_step (by decide) (op_move rfl ?_)
          | refine rl_step (by decide) (op_assign rfl ?_)
          | refine run_block ?_
          | refine run_inBlock ?_
          | refine run_exit rfl ?_
          | refine run_skip ?_
          | refine run_label ?_
          | refine run_true rfl ?_
          | refine run_false rfl ?_
          | refine rl_yes rfl rfl ?_
          | refine rl_no rfl rfl rfl (by decide) ?_
          | refine rl_step (by decide) (op_pick_t rfl rfl ?_)
          | refine rl_step (by decide) (op_pick_f rfl rfl ?_)
          | refine rl_step (by decide) (op_lss rfl rfl ?_)
          | refine rl_step (by decide) (op_leq rfl rfl ?_)
          | refine rl_step (by decide) (op_gtr rfl rfl ?_)
          | refine rl_step (by decide) (op_geq rfl rfl ?_)
          | refine rl_step (by decide) (op_eql rfl rfl ?_)
          | refine rl_step (by decide) (op_neq rfl rfl ?_)
          | refine rl_step (by decide) (op_not rfl ?_)
          | refine rl_step (by decide) (op_min rfl rfl ?_)
          | refine rl_step (by decide) (op_max rfl rfl ?_)
          | refine rl_step (by decide) (op_extract rfl rfl ?_)
          | refine rl_step (by decide) (op_add rfl rfl (by omega) ?_)
          | refine rl_step (by decide) (op_sub rfl rfl (by omega) ?_)
          | refine rl_step (by decide) (op_neg rfl (by omega) ?_)))
      refine rl_step (by decide) (op_buildSlice (E := eSl eLine) (n := 1) (parts := [(0, .tmp 70)]) (vs := [vz]) (l := [zs]) uLL teSL hr rfl rfl ⟨eSl_V.2 hz, trivial⟩ rfl ⟨Nat.le_of_ble_eq_true rfl, Nat.le_of_ble_eq_true rfl⟩ ?_)
      intro u w9 hu _ hbel
      have hs := UpM.of_below (M := M3) hbel
      replace hlo := hlo.mono hs.x
      replace hb := hb.mono hs.x
      replace hn := hn.mono hs.x
      replace hx := hx.mono hs.x
      replace hy := hy.mono hs.x
      replace hr := hr.up hs
      replace hgy := hgy.up hs
      clear hs hbel
      refine rl_step (by decide) (op_append (E := eSl eLine) (tag := 2) uLL teSL rfl rfl hr hy hgy hu (by show (ys.length + 1) * 24 ≤ _; omega) ?_)
      intro vy' w10 M6 hy2 hgy2 hst
      replace hlo := hlo.mono hst.x
      replace hb := hb.mono hst.x
      replace hn := hn.mono hst.x
      replace hx := hx.mono hst.x
      replace hr := hr.st hst
      clear hst hu
      (repeat (first
          | refine run_seq ?_
          | refine run_region_l ?_
          | refine rl_nil ?_
          | refine rl_step (by decide) (op_move rfl ?_)
          | refine rl_step (by decide) (op_assign rfl ?_)
          | refine run_block ?_
          | refine run_inBlock ?_
          | refine run_exit rfl ?_
          | refine run_skip ?_
          | refine run_label ?_
          | refine run_true rfl ?_
          | refine run_false rfl ?_
          | refine rl_yes rfl rfl ?_
          | refine rl_no rfl rfl rfl (by decide) ?_
          | refine rl_step (by decide) (op_pick_t rfl rfl ?_)
          | refine rl_step (by decide) (op_pick_f rfl rfl ?_)
          | refine rl_step (by decide) (op_lss rfl rfl ?_)
          | refine rl_step (by decide) (op_leq rfl rfl ?_)
          | refine rl_step (by decide) (op_gtr rfl rfl ?_)
          | refine rl_step (by decide) (op_geq rfl rfl ?_)
          | refine rl_step (by decide) (op_eql rfl rfl ?_)
          | refine rl_step (by decide) (op_neq rfl rfl ?_)
          | refine rl_step (by decide) (op_not rfl ?_)
          | refine rl_step (by decide) (op_min rfl rfl ?_)
          | refine rl_step (by decide) (op_max rfl rfl ?_)
          | refine rl_step (by decide) (op_extract rfl rfl ?_)
          | refine rl_step (by decide) (op_add rfl rfl (by omega) ?_)
          | refine rl_step (by decide) (op_sub rfl rfl (by omega) ?_)
          | refine rl_step (by decide) (op_neg rfl (by omega) ?_)))
      refine (ih (j + 1, vy', ys ++ [zs], M6) _ ⟨by simp only; omega, hr, hlo, hb, hn, hx, hy2, hgy2, ?_⟩ (by simp only; omega)).sub (by repeat (first | exact trivial | refine ⟨rfl, ?_⟩))
      simp only
      rw [List.map_append, hys, List.take_succ_eq_append_getElem hlt', List.map_append, List.map_singleton, List.map_singleton, hze]
  have hje : j = notes.length := by omega
  rw [hje, List.take_length] at hys
  clear ih hgy hlt hj hlo
  have hO2 := OKB.sim hys.symm hxs.symm hO
  have hsim := shape_sim (4 + aro n 97) hys.symm hxs.symm
  (repeat (first
      | refine run_seq ?_
      | refine run_region_l ?_
      | refine rl_nil ?_
      | refine rl_step (by decide) (op_move rfl ?_)
      | refine rl_step (by decide) (op_assign rfl ?_)
      | refine run_block ?_
      | refine run_inBlock ?_
      | refine run_exit rfl ?_
      | refine run_skip ?_
      | refine run_label ?_
      | refine run_true rfl ?_
      | refine run_false rfl ?_
      | refine rl_yes rfl rfl ?_
      | refine rl_no rfl rfl rfl (by decide) ?_
      | refine rl_step (by decide) (op_pick_t rfl rfl ?_)
      | refine rl_step (by decide) (op_pick_f rfl rfl ?_)
      | refine rl_step (by decide) (op_lss rfl rfl ?_)
      | refine rl_step (by decide) (op_leq rfl rfl ?_)
      | refine rl_step (by decide) (op_gtr rfl rfl ?_)
      | refine rl_step (by decide) (op_geq rfl rfl ?_)
      | refine rl_step (by decide) (op_eql rfl rfl ?_)
      | refine rl_step (by decide) (op_neq rfl rfl ?_)
      | refine rl_step (by decide) (op_not rfl ?_)
      | refine rl_step (by decide) (op_min rfl rfl ?_)
      | refine rl_step (by decide) (op_max rfl rfl ?_)
      | refine rl_step (by decide) (op_extract rfl rfl ?_)
      | refine rl_step (by decide) (op_add rfl rfl (by omega) ?_)
      | refine rl_step (by decide) (op_sub rfl rfl (by omega) ?_)
      | refine rl_step (by decide) (op_neg rfl (by omega) ?_)))
  refine rl_step (by decide) (op_call ent19 rfl (height_c _ _ hI) ?_)
  rintro _ w6 ⟨rfl, rfl⟩
  (repeat (first
      | refine run_seq ?_
      | refine run_region_l ?_
      | refine rl_nil ?_
      | refine rl_step (by decide) (op_move rfl ?_)
      | refine rl_step (by decide) (op_assign rfl ?_)
      | refine run_block ?_
      | refine run_inBlock ?_
      | refine run_exit rfl ?_
      | refine run_skip ?_
      | refine run_label ?_
      | refine run_true rfl ?_
      | refine run_false rfl ?_
      | refine rl_yes rfl rfl ?_
      | refine rl_no rfl rfl rfl (by decide) ?_
      | refine rl_step (by decide) (op_pick_t rfl rfl ?_)
      | refine rl_step (by decide) (op_pick_f rfl rfl ?_)
      | refine rl_step (by decide) (op_lss rfl rfl ?_)
      | refine rl_step (by decide) (op_leq rfl rfl ?_)
      | refine rl_step (by decide) (op_gtr rfl rfl ?_)
      | refine rl_step (by decide) (op_geq rfl rfl ?_)
      | refine rl_step (by decide) (op_eql rfl rfl ?_)
      | refine rl_step (by decide) (op_neq rfl rfl ?_)
      | refine rl_step (by decide) (op_not rfl ?_)
      | refine rl_step (by decide) (op_min rfl rfl ?_)
      | refine rl_step (by decide) (op_max rfl rfl ?_)
      | refine rl_step (by decide) (op_extract rfl rfl ?_)
      | refine rl_step (by decide) (op_add rfl rfl (by omega) ?_)
      | refine rl_step (by decide) (op_sub rfl rfl (by omega) ?_)
      | refine rl_step (by decide) (op_neg rfl (by omega) ?_)))
  refine rl_step (by decide) (op_call ent18 rfl (set_ok M2 _ _ _ _ _ _ hr.mb hb hn hO (by omega)) ?_)
  rintro _ w7 ⟨hbel, vp, rfl, hp⟩
  have hs := UpM.of_below (M := M2) hbel
  replace hr := hr.up hs
  replace hx := hx.mono hs.x
  replace hy := hy.mono hs.x
  clear hs hbel hb hn
  (repeat (first
      | refine run_seq ?_
      | refine run_region_l ?_
      | refine rl_nil ?_
      | refine rl_step (by decide) (op_move rfl ?_)
      | refine rl_step (by decide) (op_assign rfl ?_)
      | refine run_block ?_
      | refine run_inBlock ?_
      | refine run_exit rfl ?_
      | refine run_skip ?_
      | refine run_label ?_
      | refine run_true rfl ?_
      | refine run_false rfl ?_
      | refine rl_yes rfl rfl ?_
      | refine rl_no rfl rfl rfl (by decide) ?_
      | refine rl_step (by decide) (op_pick_t rfl rfl ?_)
      | refine rl_step (by decide) (op_pick_f rfl rfl ?_)
      | refine rl_step (by decide) (op_lss rfl rfl ?_)
      | refine rl_step (by decide) (op_leq rfl rfl ?_)
      | refine rl_step (by decide) (op_gtr rfl rfl ?_)
      | refine rl_step (by decide) (op_geq rfl rfl ?_)
      | refine rl_step (by decide) (op_eql rfl rfl ?_)
      | refine rl_step (by decide) (op_neq rfl rfl ?_)
      | refine rl_step (by decide) (op_not rfl ?_)
      | refine rl_step (by decide) (op_min rfl rfl ?_)
      | refine rl_step (by decide) (op_max rfl rfl ?_)
      | refine rl_step (by decide) (op_extract rfl rfl ?_)
      | refine rl_step (by decide) (op_add rfl rfl (by omega) ?_)
      | refine rl_step (by decide) (op_sub rfl rfl (by omega) ?_)
      | refine rl_step (by decide) (op_neg rfl (by omega) ?_)))
  refine rl_step (by decide) (op_call ent19 rfl (height_c _ _ hI) ?_)
  rintro _ w8 ⟨rfl, rfl⟩
  (repeat (first
      | refine run_seq ?_
      | refine run_region_l ?_
      | refine rl_nil ?_
      | refine rl_step (by decide) (op_move rfl ?_)
      | refine rl_step (by decide) (op_assign rfl ?_)
      | refine run_block ?_
      | refine run_inBlock ?_
      | refine run_exit rfl ?_
      | refine run_skip ?_
      | refine run_label ?_
      | refine run_true rfl ?_
      | refine run_false rfl ?_
      | refine rl_yes rfl rfl ?_
      | refine rl_no rfl rfl rfl (by decide) ?_
      | refine rl_step (by decide) (op_pick_t rfl rfl ?_)
      | refine rl_step (by decide) (op_pick_f rfl rfl ?_)
      | refine rl_step (by decide) (op_lss rfl rfl ?_)
      | refine rl_step (by decide) (op_leq rfl rfl ?_)
      | refine rl_step (by decide) (op_gtr rfl rfl ?_)
      | refine rl_step (by decide) (op_geq rfl rfl ?_)
      | refine rl_step (by decide) (op_eql rfl rfl ?_)
      | refine rl_step (by decide) (op_neq rfl rfl ?_)
      | refine rl_step (by decide) (op_not rfl ?_)
      | refine rl_step (by decide) (op_min rfl rfl ?_)
      | refine rl_step (by decide) (op_max rfl rfl ?_)
      | refine rl_step (by decide) (op_extract rfl rfl ?_)
      | refine rl_step (by decide) (op_add rfl rfl (by omega) ?_)
      | refine rl_step (by decide) (op_sub rfl rfl (by omega) ?_)
      | refine rl_step (by decide) (op_neg rfl (by omega) ?_)))
  refine rl_step (by decide) (op_call ent18 rfl (set_ok M2 _ _ _ _ _ _ hr.mb hx hy hO2 (by omega)) ?_)
  rintro _ w9 ⟨hbel, vq, rfl, hq⟩
  have hs := UpM.of_below (M := M2) hbel
  replace hr := hr.up hs
  replace hp := hp.mono hs.x
  clear hs hbel hx hy
  generalize setAll (4 + aro n 97) body notes = ps at hp hsim
  generalize setAll (4 + aro n 97) xs ys = qs at hq hsim
  have hpq : ps.length = qs.length := by simpa using congrArg List.length hsim
  have hpl := p_len hp
  (repeat (first
      | refine run_seq ?_
      | refine run_region_l ?_
      | refine rl_nil ?_
      | refine rl_step (by decide) (op_move rfl ?_)
      | refine rl_step (by decide) (op_assign rfl ?_)
      | refine run_block ?_
      | refine run_inBlock ?_
      | refine run_exit rfl ?_
      | refine run_skip ?_
      | refine run_label ?_
      | refine run_true rfl ?_
      | refine run_false rfl ?_
      | refine rl_yes rfl rfl ?_
      | refine rl_no rfl rfl rfl (by decide) ?_
      | refine rl_step (by decide) (op_pick_t rfl rfl ?_)
      | refine rl_step (by decide) (op_pick_f rfl rfl ?_)
      | refine rl_step (by decide) (op_lss rfl rfl ?_)
      | refine rl_step (by decide) (op_leq rfl rfl ?_)
      | refine rl_step (by decide) (op_gtr rfl rfl ?_)
      | refine rl_step (by decide) (op_geq rfl rfl ?_)
      | refine rl_step (by decide) (op_eql rfl rfl ?_)
      | refine rl_step (by decide) (op_neq rfl rfl ?_)
      | refine rl_step (by decide) (op_not rfl ?_)
      | refine rl_step (by decide) (op_min rfl rfl ?_)
      | refine rl_step (by decide) (op_max rfl rfl ?_)
      | refine rl_step (by decide) (op_extract rfl rfl ?_)
      | refine rl_step (by decide) (op_add rfl rfl (by omega) ?_)
      | refine rl_step (by decide) (op_sub rfl rfl (by omega) ?_)
      | refine rl_step (by decide) (op_neg rfl (by omega) ?_)))
  refine rl_step (by decide) (op_len uP rfl hp ?_)
  (repeat (first
      | refine run_seq ?_
      | refine run_region_l ?_
      | refine rl_nil ?_
      | refine rl_step (by decide) (op_move rfl ?_)
      | refine rl_step (by decide) (op_assign rfl ?_)
      | refine run_block ?_
      | refine run_inBlock ?_
      | refine run_exit rfl ?_
      | refine run_skip ?_
      | refine run_label ?_
      | refine run_true rfl ?_
      | refine run_false rfl ?_
      | refine rl_yes rfl rfl ?_
      | refine rl_no rfl rfl rfl (by decide) ?_
      | refine rl_step (by decide) (op_pick_t rfl rfl ?_)
      | refine rl_step (by decide) (op_pick_f rfl rfl ?_)
      | refine rl_step (by decide) (op_lss rfl rfl ?_)
      | refine rl_step (by decide) (op_leq rfl rfl ?_)
      | refine rl_step (by decide) (op_gtr rfl rfl ?_)
      | refine rl_step (by decide) (op_geq rfl rfl ?_)
      | refine rl_step (by decide) (op_eql rfl rfl ?_)
      | refine rl_step (by decide) (op_neq rfl rfl ?_)
      | refine rl_step (by decide) (op_not rfl ?_)
      | refine rl_step (by decide) (op_min rfl rfl ?_)
      | refine rl_step (by decide) (op_max rfl rfl ?_)
      | refine rl_step (by decide) (op_extract rfl rfl ?_)
      | refine rl_step (by decide) (op_add rfl rfl (by omega) ?_)
      | refine rl_step (by decide) (op_sub rfl rfl (by omega) ?_)
      | refine rl_step (by decide) (op_neg rfl (by omega) ?_)))
  refine rl_step (by decide) (op_len uP rfl hq ?_)
  (repeat (first
      | refine run_seq ?_
      | refine run_region_l ?_
      | refine rl_nil ?_
      | refine rl_step (by decide) (op_move rfl ?_)
      | refine rl_step (by decide) (op_assign rfl ?_)
      | refine run_block ?_
      | refine run_inBlock ?_
      | refine run_exit rfl ?_
      | refine run_skip ?_
      | refine run_label ?_
      | refine run_true rfl ?_
      | refine run_false rfl ?_
      | refine rl_yes rfl rfl ?_
      | refine rl_no rfl rfl rfl (by decide) ?_
      | refine rl_step (by decide) (op_pick_t rfl rfl ?_)
      | refine rl_step (by decide) (op_pick_f rfl rfl ?_)
      | refine rl_step (by decide) (op_lss rfl rfl ?_)
      | refine rl_step (by decide) (op_leq rfl rfl ?_)
      | refine rl_step (by decide) (op_gtr rfl rfl ?_)
      | refine rl_step (by decide) (op_geq rfl rfl ?_)
      | refine rl_step (by decide) (op_eql rfl rfl ?_)
      | refine rl_step (by decide) (op_neq rfl rfl ?_)
      | refine rl_step (by decide) (op_not rfl ?_)
      | refine rl_step (by decide) (op_min rfl rfl ?_)
      | refine rl_step (by decide) (op_max rfl rfl ?_)
      | refine rl_step (by decide) (op_extract rfl rfl ?_)
      | refine rl_step (by decide) (op_add rfl rfl (by omega) ?_)
      | refine rl_step (by decide) (op_sub rfl rfl (by omega) ?_)
      | refine rl_step (by decide) (op_neg rfl (by omega) ?_)))
  refine run_if rfl (fun h => absurd (by rw [hpq]) h) (fun _ => ?_)
  (repeat (first
      | refine run_seq ?_
      | refine run_region_l ?_
      | refine rl_nil ?_
      | refine rl_step (by decide) (op_move rfl ?_)
      | refine rl_step (by decide) (op_assign rfl ?_)
      | refine run_block ?_
      | refine run_inBlock ?_
      | refine run_exit rfl ?_
      | refine run_skip ?_
      | refine run_label ?_
      | refine run_true rfl ?_
      | refine run_false rfl ?_
      | refine rl_yes rfl rfl ?_
      | refine rl_no rfl rfl rfl (by decide) ?_
      | refine rl_step (by decide) (op_pick_t rfl rfl ?_)
      | refine rl_step (by decide) (op_pick_f rfl rfl ?_)
      | refine rl_step (by decide) (op_lss rfl rfl ?_)
      | refine rl_step (by decide) (op_leq rfl rfl ?_)
      | refine rl_step (by decide) (op_gtr rfl rfl ?_)
      | refine rl_step (by decide) (op_geq rfl rfl ?_)
      | refine rl_step (by decide) (op_eql rfl rfl ?_)
      | refine rl_step (by decide) (op_neq rfl rfl ?_)
      | refine rl_step (by decide) (op_not rfl ?_)
      | refine rl_step (by decide) (op_min rfl rfl ?_)
      | refine rl_step (by decide) (op_max rfl rfl ?_)
      | refine rl_step (by decide) (op_extract rfl rfl ?_)
      | refine rl_step (by decide) (op_add rfl rfl (by omega) ?_)
      | refine rl_step (by decide) (op_sub rfl rfl (by omega) ?_)
      | refine rl_step (by decide) (op_neg rfl (by omega) ?_)))
  refine (run_loop (α := Nat × Mut) (fun x => [(15, vp), (17, vq), (19, .int .i64 x.1)])
    (fun x w' => x.1 ≤ ps.length ∧ Rn M w x.2 w' ∧ SlOf ePg x.2 w' vp ps ∧ SlOf ePg x.2 w' vq qs) (fun x => ps.length - x.1) (0, M2) ⟨Nat.zero_le _, hr, hp, hq⟩ ?_).sub (by repeat (first | exact trivial | refine ⟨rfl, ?_⟩))
  clear hr hp hq
  rintro ⟨i, M3⟩ w8 ⟨hi, hr, hp, hq⟩ ih
  simp only at hi hr hp hq ih
  try dsimp only
  (repeat (first
      | refine run_seq ?_
      | refine run_region_l ?_
      | refine rl_nil ?_
      | refine rl_step (by decide) (op_move rfl ?_)
      | refine rl_step (by decide) (op_assign rfl ?_)
      | refine run_block ?_
      | refine run_inBlock ?_
      | refine run_exit rfl ?_
      | refine run_skip ?_
      | refine run_label ?_
      | refine run_true rfl ?_
      | refine run_false rfl ?_
      | refine rl_yes rfl rfl ?_
      | refine rl_no rfl rfl rfl (by decide) ?_
      | refine rl_step (by decide) (op_pick_t rfl rfl ?_)
      | refine rl_step (by decide) (op_pick_f rfl rfl ?_)
      | refine rl_step (by decide) (op_lss rfl rfl ?_)
      | refine rl_step (by decide) (op_leq rfl rfl ?_)
      | refine rl_step (by decide) (op_gtr rfl rfl ?_)
      | refine rl_step (by decide) (op_geq rfl rfl ?_)
      | refine rl_step (by decide) (op_eql rfl rfl ?_)
      | refine rl_step (by decide) (op_neq rfl rfl ?_)
      | refine rl_step (by decide) (op_not rfl ?_)
      | refine rl_step (by decide) (op_min rfl rfl ?_)
      | refine rl_step (by decide) (op_max rfl rfl ?_)
      | refine rl_step (by decide) (op_extract rfl rfl ?_)
      | refine rl_step (by decide) (op_add rfl rfl (by omega) ?_)
      | refine rl_step (by decide) (op_sub rfl rfl (by omega) ?_)
      | refine rl_step (by decide) (op_neg rfl (by omega) ?_)))
  refine rl_step (by decide) (op_len uP rfl hp ?_)
  (repeat (first
      | refine run_seq ?_
      | refine run_region_l ?_
      | refine rl_nil ?_
      | refine rl_step (by decide) (op_move rfl ?_)
      | refine rl_step (by decide) (op_assign rfl ?_)
      | refine run_block ?_
      | refine run_inBlock ?_
      | refine run_exit rfl ?_
      | refine run_skip ?_
      | refine run_label ?_
      | refine run_true rfl ?_
      | refine run_false rfl ?_
      | refine rl_yes rfl rfl ?_
      | refine rl_no rfl rfl rfl (by decide) ?_
      | refine rl_step (by decide) (op_pick_t rfl rfl ?_)
      | refine rl_step (by decide) (op_pick_f rfl rfl ?_)
      | refine rl_step (by decide) (op_lss rfl rfl ?_)
      | refine rl_step (by decide) (op_leq rfl rfl ?_)
      | refine rl_step (by decide) (op_gtr rfl rfl ?_)
      | refine rl_step (by decide) (op_geq rfl rfl ?_)
      | refine rl_step (by decide) (op_eql rfl rfl ?_)
      | refine rl_step (by decide) (op_neq rfl rfl ?_)
      | refine rl_step (by decide) (op_not rfl ?_)
      | refine rl_step (by decide) (op_min rfl rfl ?_)
      | refine rl_step (by decide) (op_max rfl rfl ?_)
      | refine rl_step (by decide) (op_extract rfl rfl ?_)
      | refine rl_step (by decide) (op_add rfl rfl (by omega) ?_)
      | refine rl_step (by decide) (op_sub rfl rfl (by omega) ?_)
      | refine rl_step (by decide) (op_neg rfl (by omega) ?_)))
  refine run_if rfl (fun hlt => ?_) (fun hlt => ?_)
  · have hlt' : i < ps.length := by omega
    have hlt2 : i < qs.length := by omega
    have hb0 : (ps[i].body.length, ps[i].notes.length) = (qs[i].body.length, qs[i].notes.length) := by
      have := congrArg (fun l : List (Nat × Nat) => l[i]?) hsim
      simpa [hlt', hlt2] using this
    have hb1 : qs[i].body.length = ps[i].body.length := (congrArg Prod.fst hb0).symm
    have hb2 : qs[i].notes.length = ps[i].notes.length := (congrArg Prod.snd hb0).symm
    (repeat (first
        | refine run_seq ?_
        | refine run_region_l ?_
        | refine rl_nil ?_
        | refine rl_step (by decide) (op_move rfl ?_)
        | refine rl_step (by decide) (op_assign rfl ?_)
        | refine run_block ?_
        | refine run_inBlock ?_
        | refine run_exit rfl ?_
        | refine run_skip ?_
        | refine run_label ?_
        | refine run_true rfl ?_
        | refine run_false rfl ?_
        | refine rl_yes rfl rfl ?_
        | refine rl_no rfl rfl rfl (by decide) ?_
        | refine rl_step (by decide) (op_pick_t rfl rfl ?_)
        | refine rl_step (by decide) (op_pick_f rfl rfl ?_)
        | refine rl_step (by decide) (op_lss rfl rfl ?_)
        | refine rl_step (by decide) (op_leq rfl rfl ?_)
        | refine rl_step (by decide) (op_gtr rfl rfl ?_)
        | refine rl_step (by decide) (op_geq rfl rfl ?_)
        | refine rl_step (by decide) (op_eql rfl rfl ?_)
        | refine rl_step (by decide) (op_neq rfl rfl ?_)
        | refine rl_step (by decide) (op_not rfl ?_)
        | refine rl_step (by decide) (op_min rfl rfl ?_)
        | refine rl_step (by decide) (op_max rfl rfl ?_)
        | refine rl_step (by decide) (op_extract rfl rfl ?_)
        | refine rl_step (by decide) (op_add rfl rfl (by omega) ?_)
        | refine rl_step (by decide) (op_sub rfl rfl (by omega) ?_)
        | refine rl_step (by decide) (op_neg rfl (by omega) ?_)))
    refine region_dr (M := M3) 27 1 [] mixed rfl (by kernel_rfl) (fun w1 hs1 => ?_)
    replace hp := hp.mono hs1.x
    replace hq := hq.mono hs1.x
    replace hr := hr.up hs1
    refine dr_cons (isv vp) (by decide) (mono_isv _) (ob0 rfl fun M w' hs2 => ?_) ?_
    · exact opg (op_move rfl ⟨_, UpM.refl _ _, rfl⟩)
    refine dr_cons (isv (.int .i64 i)) (by decide) (mono_isv _) (ob0 rfl fun M w' hs2 => ?_) ?_
    · exact opg (op_move rfl ⟨_, UpM.refl _ _, rfl⟩)
    refine dr_cons (isPtr ePg ps[i]) (by decide) (mono_isPtr _ _) (ob2 rfl fun M w' hs2 v1 k1 v2 k2 => ?_) ?_
    · cases k1; cases k2; exact opg (op_indexAddr uP teP rfl rfl (hp.mono hs2.x) (by omega) fun ad hn he => ⟨_, UpM.refl _ _, ad, rfl, he⟩)
    refine dr_cons (isPtr (eSl eLine) ps[i].body) (by decide) (mono_isPtr _ _) (ob1 rfl fun M w' hs2 v1 k1 => ?_) ?_
    · obtain ⟨ad1, rfl, he1⟩ := k1; exact opg (op_fieldAddr fdP3 rfl ⟨_, UpM.refl _ _, _, rfl, he1.pg.2.1⟩)
    refine dr_cons (isSl eLine ps[i].body) (by decide) (mono_isSl _ _) (ob1 rfl fun M w' hs2 v1 k1 => ?_) ?_
    · obtain ⟨ad1, rfl, he1⟩ := k1; exact opg (op_load teSL rfl he1 fun u hu => ⟨_, UpM.refl _ _, eSl_V.1 hu⟩)
    refine dr_cons (isv (.int .i64 ((ps[i].body.length : Int)))) (by decide) (mono_isv _) (ob1 rfl fun M w' hs2 v1 k1 => ?_) ?_
    · exact opg (op_len uL rfl k1 ⟨_, UpM.refl _ _, rfl⟩)
    refine dr_cons (isv vq) (by decide) (mono_isv _) (ob0 rfl fun M w' hs2 => ?_) ?_
    · exact opg (op_move rfl ⟨_, UpM.refl _ _, rfl⟩)
    refine dr_cons (isv (.int .i64 i)) (by decide) (mono_isv _) (ob0 rfl fun M w' hs2 => ?_) ?_
    · exact opg (op_move rfl ⟨_, UpM.refl _ _, rfl⟩)
    refine dr_cons (isPtr ePg qs[i]) (by decide) (mono_isPtr _ _) (ob2 rfl fun M w' hs2 v1 k1 v2 k2 => ?_) ?_
    · cases k1; cases k2; exact opg (op_indexAddr uP teP rfl rfl (hq.mono hs2.x) (by omega) fun ad hn he => ⟨_, UpM.refl _ _, ad, rfl, he⟩)
    refine dr_cons (isPtr (eSl eLine) qs[i].body) (by decide) (mono_isPtr _ _) (ob1 rfl fun M w' hs2 v1 k1 => ?_) ?_
    · obtain ⟨ad1, rfl, he1⟩ := k1; exact opg (op_fieldAddr fdP3 rfl ⟨_, UpM.refl _ _, _, rfl, he1.pg.2.1⟩)
    refine dr_cons (isSl eLine qs[i].body) (by decide) (mono_isSl _ _) (ob1 rfl fun M w' hs2 v1 k1 => ?_) ?_
    · obtain ⟨ad1, rfl, he1⟩ := k1; exact opg (op_load teSL rfl he1 fun u hu => ⟨_, UpM.refl _ _, eSl_V.1 hu⟩)
    refine dr_cons (isv (.int .i64 ((ps[i].body.length : Int)))) (by decide) (mono_isv _) (ob1 rfl fun M w' hs2 v1 k1 => ?_) ?_
    · exact opg (op_len uL rfl k1 ⟨_, UpM.refl _ _, congrArg (fun z : Nat => Value.int .i64 (z : Int)) hb1⟩)
    refine dr_cons (isv (.bool false)) (by decide) (mono_isv _) (ob2 rfl fun M w' hs2 v1 k1 v2 k2 => ?_) ?_
    · cases k1; cases k2; exact opg (op_neq rfl rfl ⟨_, UpM.refl _ _, by rw [decide_eq_false (fun h => h rfl)]; rfl⟩)
    refine dr_cons (isv (.bool false)) (by decide) (mono_isv _) (ob1 rfl fun M w' hs2 v1 k1 => ?_) ?_
    · cases k1; exact opg (op_move rfl ⟨_, UpM.refl _ _, rfl⟩)
    refine dr_cons (isv vp) (by decide) (mono_isv _) (ob1 rfl fun M w' hs2 v1 k1 => ?_) ?_
    · cases k1; exact opg_yes rfl rfl (op_move rfl ⟨_, UpM.refl _ _, rfl⟩)
    refine dr_cons (isv (.int .i64 i)) (by decide) (mono_isv _) (ob1 rfl fun M w' hs2 v1 k1 => ?_) ?_
    · cases k1; exact opg_yes rfl rfl (op_move rfl ⟨_, UpM.refl _ _, rfl⟩)
    refine dr_cons (isPtr ePg ps[i]) (by decide) (mono_isPtr _ _) (ob3 rfl fun M w' hs2 v1 k1 v2 k2 v3 k3 => ?_) ?_
    · cases k1; cases k2; cases k3; exact opg_yes rfl rfl (op_indexAddr uP teP rfl rfl (hp.mono hs2.x) (by omega) fun ad hn he => ⟨_, UpM.refl _ _, ad, rfl, he⟩)
    refine dr_cons (isPtr (eSl eLine) ps[i].notes) (by decide) (mono_isPtr _ _) (ob2 rfl fun M w' hs2 v1 k1 v2 k2 => ?_) ?_
    · cases k1; obtain ⟨ad2, rfl, he2⟩ := k2; exact opg_yes rfl rfl (op_fieldAddr fdP4 rfl ⟨_, UpM.refl _ _, _, rfl, he2.pg.2.2⟩)
    refine dr_cons (isSl eLine ps[i].notes) (by decide) (mono_isSl _ _) (ob2 rfl fun M w' hs2 v1 k1 v2 k2 => ?_) ?_
    · cases k1; obtain ⟨ad2, rfl, he2⟩ := k2; exact opg_yes rfl rfl (op_load teSL rfl he2 fun u hu => ⟨_, UpM.refl _ _, eSl_V.1 hu⟩)
    refine dr_cons (isv (.int .i64 ((ps[i].notes.length : Int)))) (by decide) (mono_isv _) (ob2 rfl fun M w' hs2 v1 k1 v2 k2 => ?_) ?_
    · cases k1; exact opg_yes rfl rfl (op_len uL rfl k2 ⟨_, UpM.refl _ _, rfl⟩)
    refine dr_cons (isv vq) (by decide) (mono_isv _) (ob1 rfl fun M w' hs2 v1 k1 => ?_) ?_
    · cases k1; exact opg_yes rfl rfl (op_move rfl ⟨_, UpM.refl _ _, rfl⟩)
    refine dr_cons (isv (.int .i64 i)) (by decide) (mono_isv _) (ob1 rfl fun M w' hs2 v1 k1 => ?_) ?_
    · cases k1; exact opg_yes rfl rfl (op_move rfl ⟨_, UpM.refl _ _, rfl⟩)
    refine dr_cons (isPtr ePg qs[i]) (by decide) (mono_isPtr _ _) (ob3 rfl fun M w' hs2 v1 k1 v2 k2 v3 k3 => ?_) ?_
    · cases k1; cases k2; cases k3; exact opg_yes rfl rfl (op_indexAddr uP teP rfl rfl (hq.mono hs2.x) (by omega) fun ad hn he => ⟨_, UpM.refl _ _, ad, rfl, he⟩)
    refine dr_cons (isPtr (eSl eLine) qs[i].notes) (by decide) (mono_isPtr _ _) (ob2 rfl fun M w' hs2 v1 k1 v2 k2 => ?_) ?_
    · cases k1; obtain ⟨ad2, rfl, he2⟩ := k2; exact opg_yes rfl rfl (op_fieldAddr fdP4 rfl ⟨_, UpM.refl _ _, _, rfl, he2.pg.2.2⟩)
    refine dr_cons (isSl eLine qs[i].notes) (by decide) (mono_isSl _ _) (ob2 rfl fun M w' hs2 v1 k1 v2 k2 => ?_) ?_
    · cases k1; obtain ⟨ad2, rfl, he2⟩ := k2; exact opg_yes rfl rfl (op_load teSL rfl he2 fun u hu => ⟨_, UpM.refl _ _, eSl_V.1 hu⟩)
    refine dr_cons (isv (.int .i64 ((ps[i].notes.length : Int)))) (by decide) (mono_isv _) (ob2 rfl fun M w' hs2 v1 k1 v2 k2 => ?_) ?_
    · cases k1; exact opg_yes rfl rfl (op_len uL rfl k2 ⟨_, UpM.refl _ _, congrArg (fun z : Nat => Value.int .i64 (z : Int)) hb2⟩)
    refine dr_cons (isv (.bool false)) (by decide) (mono_isv _) (ob3 rfl fun M w' hs2 v1 k1 v2 k2 v3 k3 => ?_) ?_
    · cases k1; cases k2; cases k3; exact opg_yes rfl rfl (op_neq rfl rfl ⟨_, UpM.refl _ _, by rw [decide_eq_false (fun h => h rfl)]; rfl⟩)
    refine dr_nil rfl (fun M4 w9 val hs2 hall => ?_)
    obtain ⟨h134, _, _, _, _, _, _, _, _, _, _, _, _, h121, _⟩ := hall
    have e134 : val 134 = _ := h134; have e121 : val 121 = _ := h121
    replace hp := hp.mono hs2.x
    replace hq := hq.mono hs2.x
    replace hr := hr.up hs2
    refine RT.sub (fr' := [(15, vp), (17, vq), (19, .int .i64 i), (121, val 121), (134, val 134)]) ?_ (by repeat (first | exact trivial | refine ⟨rfl, ?_⟩))
    rw [e121, e134]
    refine rt_one (i := 27) (by kernel_rfl) rfl (by decide) (op_pick_f rfl rfl ?_)
    refine rt_nil (by kernel_rfl) ?_
    (repeat (first
        | refine run_seq ?_
        | refine run_region_l ?_
        | refine rl_nil ?_
        | refine rl_step (by decide) (op_move rfl ?_)
        | refine rl_step (by decide) (op_assign rfl ?_)
        | refine run_block ?_
        | refine run_inBlock ?_
        | refine run_exit rfl ?_
        | refine run_skip ?_
        | refine run_label ?_
        | refine run_true rfl ?_
        | refine run_false rfl ?_
        | refine rl_yes rfl rfl ?_
        | refine rl_no rfl rfl rfl (by decide) ?_
        | refine rl_step (by decide) (op_pick_t rfl rfl ?_)
        | refine rl_step (by decide) (op_pick_f rfl rfl ?_)
        | refine rl_step (by decide) (op_lss rfl rfl ?_)
        | refine rl_step (by decide) (op_leq rfl rfl ?_)
        | refine rl_step (by decide) (op_gtr rfl rfl ?_)
        | refine rl_step (by decide) (op_geq rfl rfl ?_)
        | refine rl_step (by decide) (op_eql rfl rfl ?_)
        | refine rl_step (by decide) (op_neq rfl rfl ?_)
        | refine rl_step (by decide) (op_not rfl ?_)
        | refine rl_step (by decide) (op_min rfl rfl ?_)
        | refine rl_step (by decide) (op_max rfl rfl ?_)
        | refine rl_step (by decide) (op_extract rfl rfl ?_)
        | refine rl_step (by decide) (op_add rfl rfl (by omega) ?_)
        | refine rl_step (by decide) (op_sub rfl rfl (by omega) ?_)
        | refine rl_step (by decide) (op_neg rfl (by omega) ?_)))
    exact (ih (i + 1, M4) _ ⟨by simp only; omega, hr, hp, hq⟩ (by simp only; omega)).sub (by repeat (first | exact trivial | refine ⟨rfl, ?_⟩))
  · (repeat (first
        | refine run_seq ?_
        | refine run_region_l ?_
        | refine rl_nil ?_
        | refine rl_step (by decide) (op_move rfl ?_)
        | refine rl_step (by decide) (op_assign rfl ?_)
        | refine run_block ?_
        | refine run_inBlock ?_
        | refine run_exit rfl ?_
        | refine run_skip ?_
        | refine run_label ?_
        | refine run_true rfl ?_
        | refine run_false rfl ?_
        | refine rl_yes rfl rfl ?_
        | refine rl_no rfl rfl rfl (by decide) ?_
        | refine rl_step (by decide) (op_pick_t rfl rfl ?_)
        | refine rl_step (by decide) (op_pick_f rfl rfl ?_)
        | refine rl_step (by decide) (op_lss rfl rfl ?_)
        | refine rl_step (by decide) (op_leq rfl rfl ?_)
        | refine rl_step (by decide) (op_gtr rfl rfl ?_)
        | refine rl_step (by decide) (op_geq rfl rfl ?_)
        | refine rl_step (by decide) (op_eql rfl rfl ?_)
        | refine rl_step (by decide) (op_neq rfl rfl ?_)
        | refine rl_step (by decide) (op_not rfl ?_)
        | refine rl_step (by decide) (op_min rfl rfl ?_)
        | refine rl_step (by decide) (op_max rfl rfl ?_)
        | refine rl_step (by decide) (op_extract rfl rfl ?_)
        | refine rl_step (by decide) (op_add rfl rfl (by omega) ?_)
        | refine rl_step (by decide) (op_sub rfl rfl (by omega) ?_)
        | refine rl_step (by decide) (op_neg rfl (by omega) ?_)))
    refine rl_step (by decide) (op_call ent22 rfl (lives_c M3 _ hr.mb) ?_)
    rintro _ w9 ⟨rfl, hbel⟩
    replace hr := hr.up (UpM.of_below (M := M3) hbel)
    (repeat (first
        | refine run_seq ?_
        | refine run_region_l ?_
        | refine rl_nil ?_
        | refine rl_step (by decide) (op_move rfl ?_)
        | refine rl_step (by decide) (op_assign rfl ?_)
        | refine run_block ?_
        | refine run_inBlock ?_
        | refine run_exit rfl ?_
        | refine run_skip ?_
        | refine run_label ?_
        | refine run_true rfl ?_
        | refine run_false rfl ?_
        | refine rl_yes rfl rfl ?_
        | refine rl_no rfl rfl rfl (by decide) ?_
        | refine rl_step (by decide) (op_pick_t rfl rfl ?_)
        | refine rl_step (by decide) (op_pick_f rfl rfl ?_)
        | refine rl_step (by decide) (op_lss rfl rfl ?_)
        | refine rl_step (by decide) (op_leq rfl rfl ?_)
        | refine rl_step (by decide) (op_gtr rfl rfl ?_)
        | refine rl_step (by decide) (op_geq rfl rfl ?_)
        | refine rl_step (by decide) (op_eql rfl rfl ?_)
        | refine rl_step (by decide) (op_neq rfl rfl ?_)
        | refine rl_step (by decide) (op_not rfl ?_)
        | refine rl_step (by decide) (op_min rfl rfl ?_)
        | refine rl_step (by decide) (op_max rfl rfl ?_)
        | refine rl_step (by decide) (op_extract rfl rfl ?_)
        | refine rl_step (by decide) (op_add rfl rfl (by omega) ?_)
        | refine rl_step (by decide) (op_sub rfl rfl (by omega) ?_)
        | refine rl_step (by decide) (op_neg rfl (by omega) ?_)))
    refine run_ret1 Try.func10 rfl rfl ?_
    exact ⟨rfl, hr.bel⟩

end Go.Proofs.Ytocoinkhbjlbhaa
