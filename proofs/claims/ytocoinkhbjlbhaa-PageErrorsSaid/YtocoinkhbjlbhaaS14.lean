/-
  Walks: equal pages are found equal.
-/
import Derived.Test.YtocoinkhbjlbhaaS13
import Derived.Test.YtocoinkhbjlbhaaP27e
import Derived.Test.YtocoinkhbjlbhaaKit10
namespace Go.Proofs.Ytocoinkhbjlbhaa
open Go Go.RowKit

theorem run_equalIn_int (d : Nat) (a : Int) (w : World) : (Go.Op.equalIn (d + 1) 3 (.int .i64 a) (.int .i64 a)).run Try.prog w = .ok true w := by
  have h : Try.prog.underlying 3 = some (.int .i64) := Try.underlying3
  simp [Go.Op.equalIn, run_underlying h]

theorem run_part0 (x y : Value) (w : World) : (part 3 #[x, y] 0).run Try.prog w = .ok x w := by
  simp [part, tdI.run_isAgg (w := w)]
theorem run_part1 (x y : Value) (w : World) : (part 3 #[x, y] 1).run Try.prog w = .ok y w := by
  simp [part, tdI.run_isAgg (w := w)]

theorem run_equalIn_label (d : Nat) (a b : Int) (w : World) : (Go.Op.equalIn (d + 2) 38 (.agg #[.int .i64 a, .int .i64 b]) (.agg #[.int .i64 a, .int .i64 b])).run Try.prog w = .ok true w := by
  have h := Try.underlying38
  rw [Go.Op.equalIn]
  simp [run_underlying h, run_part0, run_part1, run_equalIn_int]

theorem eqGuard_label : Try.prog.eqGuardType Try.prog.depth 38 = false := by kernel_rfl

theorem run_neq_label (a b : Int) (w : World) : (Go.binOp .neq 38 (.agg #[.int .i64 a, .int .i64 b]) (.agg #[.int .i64 a, .int .i64 b])).run Try.prog w = .ok (.bool false) w := by
  have h : (Go.Op.equalIn Go.Op.maxDepth 38 (.agg #[.int .i64 a, .int .i64 b]) (.agg #[.int .i64 a, .int .i64 b])).run Try.prog w = .ok true w := run_equalIn_label 9998 a b w
  simp [Go.binOp, Go.Op.equal, h]

section
variable {N : Nat} {fr : Fr} {w : World} {Ψ : Value → World → Prop} {d : Option Tmp} {ty : TypeId} {pos : String} {aft : Array Edge} {g : Option (Nat × Bool)}
theorem op_neqLabel {x y : Operand} {a b : Int} {u : TypeId} (hx : opv fr x = some (.agg #[.int .i64 a, .int .i64 b])) (hy : opv fr y = some (.agg #[.int .i64 a, .int .i64 b])) (h : Ψ (.bool false) w) :
    OP Try.prog N ⟨d, .binOp .neq 38 x y u, ty, pos, aft, g⟩ fr w Ψ :=
  OP.val (v := .bool false) (w' := w) (fun ac ha => by
    simp [execOp, ha.eval hx, ha.eval hy, eqGuard, run_neq_label]) h
end

theorem teLb : TE Try.prog 38 eLb := ⟨_, rfl, tdLb⟩

theorem Elem.label {M : Mut} {w : World} {ad : Addr} {p : Pg} (h : Elem ePg M w ad p) : Elem eLb M w (ad.add 0) (p.num, p.suf) := by
  obtain ⟨cs, hR, hc⟩ := h
  obtain ⟨b, n, rfl, ⟨h1, h2, h5, h6⟩, h3, h4⟩ := ePg_R.1 hR
  refine ⟨[.int .i64 p.num, .int .i64 p.suf], ⟨_, _, rfl, ⟨rfl, fun _ => h1, fun e => by cases e⟩, ⟨rfl, fun _ => h2, fun e => by cases e⟩⟩, fun j c hj => ?_⟩
  rw [add_add']
  refine hc _ _ ?_
  match j, hj with
  | 0, hj => simpa using hj
  | 1, hj => simpa using hj
  | j + 2, hj => simp at hj

theorem eLb_V {M : Mut} {w : World} {v : Value} {x : Int × Int} (h : eLb.V M w v x) : v = .agg #[.int .i64 x.1, .int .i64 x.2] := by
  obtain ⟨cs, ⟨a, b, rfl, ⟨rfl, _⟩, ⟨rfl, _⟩⟩, rfl⟩ := h
  rfl

set_option maxHeartbeats 4000000 in
theorem samePages_c (M : Mut) (va vb : Value) (ps : List Pg) (w : World) (hm : MB M w) (hsa : SlOf ePg M w va ps) (hsb : SlOf ePg M w vb ps) :
    CallsV Try.prog 21 [va, vb] w (fun u w' => u = .bool true ∧ Below w.heap.size w w') := by
  have hr := Rn.refl hm
  have hl := p_len hsa
  refine callsV_of_run Try.func21 rfl Try.ntmps21 (Nat.le_of_ble_eq_true rfl) ?_
  (repeat (first
      | refine run_seq ?_
      | refine run_region_l ?_
      | refine rl_nil ?_
      | refine rl_step (by decide) (op_move rfl ?_)
      | refine rl_step (by decide) (op_assign rfl ?_)
      | refine run_block ?_
      | refine run_inBlock ?_
      | refine run_exit rfl ?_
      | refine run_skip ?_
      | refine run_label ?_
      | refine run_true rfl ?_
      | refine run_false rfl ?_
      | refine rl_yes rfl rfl ?_
      | refine rl_no rfl rfl rfl (by decide) ?_
      | refine rl_step (by decide) (op_pick_t rfl rfl ?_)
      | refine rl_step (by decide) (op_pick_f rfl rfl ?_)
      | refine rl_step (by decide) (op_lss rfl rfl ?_)
      | refine rl_step (by decide) (op_leq rfl rfl ?_)
      | refine rl_step (by decide) (op_gtr rfl rfl ?_)
      | refine rl_step (by decide) (op_geq rfl rfl ?_)
      | refine rl_step (by decide) (op_eql rfl rfl ?_)
      | refine rl_step (by decide) (op_neq rfl rfl ?_)
      | refine rl_step (by decide) (op_not rfl ?_)
      | refine rl_step (by decide) (op_min rfl rfl ?_)
      | refine rl_step (by decide) (op_max rfl rfl ?_)
      | refine rl_step (by decide) (op_extract rfl rfl ?_)
      | refine rl_step (by decide) (op_add rfl rfl (by omega) ?_)
      | refine rl_step (by decide) (op_sub rfl rfl (by omega) ?_)
      | refine rl_step (by decide) (op_neg rfl (by omega) ?_)))
  refine rl_step (by decide) (op_len uP rfl hsa ?_)
  (repeat (first
      | refine run_seq ?_
      | refine run_region_l ?_
      | refine rl_nil ?_
      | refine rl_step (by decide) (op_move rfl ?_)
      | refine rl_step (by decide) (op_assign rfl ?_)
      | refine run_block ?_
      | refine run_inBlock ?_
      | refine run_exit rfl ?_
      | refine run_skip ?_
      | refine run_label ?_
      | refine run_true rfl ?_
      | refine run_false rfl ?_
      | refine rl_yes rfl rfl ?_
      | refine rl_no rfl rfl rfl (by decide) ?_
      | refine rl_step (by decide) (op_pick_t rfl rfl ?_)
      | refine rl_step (by decide) (op_pick_f rfl rfl ?_)
      | refine rl_step (by decide) (op_lss rfl rfl ?_)
      | refine rl_step (by decide) (op_leq rfl rfl ?_)
      | refine rl_step (by decide) (op_gtr rfl rfl ?_)
      | refine rl_step (by decide) (op_geq rfl rfl ?_)
      | refine rl_step (by decide) (op_eql rfl rfl ?_)
      | refine rl_step (by decide) (op_neq rfl rfl ?_)
      | refine rl_step (by decide) (op_not rfl ?_)
      | refine rl_step (by decide) (op_min rfl rfl ?_)
      | refine rl_step (by decide) (op_max rfl rfl ?_)
      | refine rl_step (by decide) (op_extract rfl rfl ?_)
      | refine rl_step (by decide) (op_add rfl rfl (by omega) ?_)
      | refine rl_step (by decide) (op_sub rfl rfl (by omega) ?_)
      | refine rl_step (by decide) (op_neg rfl (by omega) ?_)))
  refine rl_step (by decide) (op_len uP rfl hsb ?_)
  (repeat (first
      | refine run_seq ?_
      | refine run_region_l ?_
      | refine rl_nil ?_
      | refine rl_step (by decide) (op_move rfl ?_)
      | refine rl_step (by decide) (op_assign rfl ?_)
      | refine run_block ?_
      | refine run_inBlock ?_
      | refine run_exit rfl ?_
      | refine run_skip ?_
      | refine run_label ?_
      | refine run_true rfl ?_
      | refine run_false rfl ?_
      | refine rl_yes rfl rfl ?_
      | refine rl_no rfl rfl rfl (by decide) ?_
      | refine rl_step (by decide) (op_pick_t rfl rfl ?_)
      | refine rl_step (by decide) (op_pick_f rfl rfl ?_)
      | refine rl_step (by decide) (op_lss rfl rfl ?_)
      | refine rl_step (by decide) (op_leq rfl rfl ?_)
      | refine rl_step (by decide) (op_gtr rfl rfl ?_)
      | refine rl_step (by decide) (op_geq rfl rfl ?_)
      | refine rl_step (by decide) (op_eql rfl rfl ?_)
      | refine rl_step (by decide) (op_neq rfl rfl ?_)
      | refine rl_step (by decide) (op_not rfl ?_)
      | refine rl_step (by decide) (op_min rfl rfl ?_)
      | refine rl_step (by decide) (op_max rfl rfl ?_)
      | refine rl_step (by decide) (op_extract rfl rfl ?_)
      | refine rl_step (by decide) (op_add rfl rfl (by omega) ?_)
      | refine rl_step (by decide) (op_sub rfl rfl (by omega) ?_)
      | refine rl_step (by decide) (op_neg rfl (by omega) ?_)))
  refine run_if rfl (fun h => absurd rfl h) (fun _ => ?_)
  (repeat (first
      | refine run_seq ?_
      | refine run_region_l ?_
      | refine rl_nil ?_
      | refine rl_step (by decide) (op_move rfl ?_)
      | refine rl_step (by decide) (op_assign rfl ?_)
      | refine run_block ?_
      | refine run_inBlock ?_
      | refine run_exit rfl ?_
      | refine run_skip ?_
      | refine run_label ?_
      | refine run_true rfl ?_
      | refine run_false rfl ?_
      | refine rl_yes rfl rfl ?_
      | refine rl_no rfl rfl rfl (by decide) ?_
      | refine rl_step (by decide) (op_pick_t rfl rfl ?_)
      | refine rl_step (by decide) (op_pick_f rfl rfl ?_)
      | refine rl_step (by decide) (op_lss rfl rfl ?_)
      | refine rl_step (by decide) (op_leq rfl rfl ?_)
      | refine rl_step (by decide) (op_gtr rfl rfl ?_)
      | refine rl_step (by decide) (op_geq rfl rfl ?_)
      | refine rl_step (by decide) (op_eql rfl rfl ?_)
      | refine rl_step (by decide) (op_neq rfl rfl ?_)
      | refine rl_step (by decide) (op_not rfl ?_)
      | refine rl_step (by decide) (op_min rfl rfl ?_)
      | refine rl_step (by decide) (op_max rfl rfl ?_)
      | refine rl_step (by decide) (op_extract rfl rfl ?_)
      | refine rl_step (by decide) (op_add rfl rfl (by omega) ?_)
      | refine rl_step (by decide) (op_sub rfl rfl (by omega) ?_)
      | refine rl_step (by decide) (op_neg rfl (by omega) ?_)))
  refine (run_loop (α := Nat × Mut) (fun x => [(0, va), (1, vb), (5, .int .i64 x.1)])
    (fun x w' => x.1 ≤ ps.length ∧ Rn M w x.2 w' ∧ SlOf ePg x.2 w' va ps ∧ SlOf ePg x.2 w' vb ps) (fun x => ps.length - x.1) (0, M) ⟨Nat.zero_le _, hr, hsa, hsb⟩ ?_).sub (by repeat (first | exact trivial | refine ⟨rfl, ?_⟩))
  clear hr hsa hsb
  rintro ⟨i, M1⟩ w1 ⟨hi, hr, hsa, hsb⟩ ih
  simp only at hi hr hsa hsb ih
  try dsimp only
  (repeat (first
      | refine run_seq ?_
      | refine run_region_l ?_
      | refine rl_nil ?_
      | refine rl_step (by decide) (op_move rfl ?_)
      | refine rl_step (by decide) (op_assign rfl ?_)
      | refine run_block ?_
      | refine run_inBlock ?_
      | refine run_exit rfl ?_
      | refine run_skip ?_
      | refine run_label ?_
      | refine run_true rfl ?_
      | refine run_false rfl ?_
      | refine rl_yes rfl rfl ?_
      | refine rl_no rfl rfl rfl (by decide) ?_
      | refine rl_step (by decide) (op_pick_t rfl rfl ?_)
      | refine rl_step (by decide) (op_pick_f rfl rfl ?_)
      | refine rl_step (by decide) (op_lss rfl rfl ?_)
      | refine rl_step (by decide) (op_leq rfl rfl ?_)
      | refine rl_step (by decide) (op_gtr rfl rfl ?_)
      | refine rl_step (by decide) (op_geq rfl rfl ?_)
      | refine rl_step (by decide) (op_eql rfl rfl ?_)
      | refine rl_step (by decide) (op_neq rfl rfl ?_)
      | refine rl_step (by decide) (op_not rfl ?_)
      | refine rl_step (by decide) (op_min rfl rfl ?_)
      | refine rl_step (by decide) (op_max rfl rfl ?_)
      | refine rl_step (by decide) (op_extract rfl rfl ?_)
      | refine rl_step (by decide) (op_add rfl rfl (by omega) ?_)
      | refine rl_step (by decide) (op_sub rfl rfl (by omega) ?_)
      | refine rl_step (by decide) (op_neg rfl (by omega) ?_)))
  refine rl_step (by decide) (op_len uP rfl hsa ?_)
  (repeat (first
      | refine run_seq ?_
      | refine run_region_l ?_
      | refine rl_nil ?_
      | refine rl_step (by decide) (op_move rfl ?_)
      | refine rl_step (by decide) (op_assign rfl ?_)
      | refine run_block ?_
      | refine run_inBlock ?_
      | refine run_exit rfl ?_
      | refine run_skip ?_
      | refine run_label ?_
      | refine run_true rfl ?_
      | refine run_false rfl ?_
      | refine rl_yes rfl rfl ?_
      | refine rl_no rfl rfl rfl (by decide) ?_
      | refine rl_step (by decide) (op_pick_t rfl rfl ?_)
      | refine rl_step (by decide) (op_pick_f rfl rfl ?_)
      | refine rl_step (by decide) (op_lss rfl rfl ?_)
      | refine rl_step (by decide) (op_leq rfl rfl ?_)
      | refine rl_step (by decide) (op_gtr rfl rfl ?_)
      | refine rl_step (by decide) (op_geq rfl rfl ?_)
      | refine rl_step (by decide) (op_eql rfl rfl ?_)
      | refine rl_step (by decide) (op_neq rfl rfl ?_)
      | refine rl_step (by decide) (op_not rfl ?_)
      | refine rl_step (by decide) (op_min rfl rfl ?_)
      | refine rl_step (by decide) (op_max rfl rfl ?_)
      | refine rl_step (by decide) (op_extract rfl rfl ?_)
      | refine rl_step (by decide) (op_add rfl rfl (by omega) ?_)
      | refine rl_step (by decide) (op_sub rfl rfl (by omega) ?_)
      | refine rl_step (by decide) (op_neg rfl (by omega) ?_)))
  refine run_if rfl (fun hlt => ?_) (fun hlt => ?_)
  · have hlt' : i < ps.length := by omega
    (repeat (first
        | refine run_seq ?_
        | refine run_region_l ?_
        | refine rl_nil ?_
        | refine rl_step (by decide) (op_move rfl ?_)
        | refine rl_step (by decide) (op_assign rfl ?_)
        | refine run_block ?_
        | refine run_inBlock ?_
        | refine run_exit rfl ?_
        | refine run_skip ?_
        | refine run_label ?_
        | refine run_true rfl ?_
        | refine run_false rfl ?_
        | refine rl_yes rfl rfl ?_
        | refine rl_no rfl rfl rfl (by decide) ?_
        | refine rl_step (by decide) (op_pick_t rfl rfl ?_)
        | refine rl_step (by decide) (op_pick_f rfl rfl ?_)
        | refine rl_step (by decide) (op_lss rfl rfl ?_)
        | refine rl_step (by decide) (op_leq rfl rfl ?_)
        | refine rl_step (by decide) (op_gtr rfl rfl ?_)
        | refine rl_step (by decide) (op_geq rfl rfl ?_)
        | refine rl_step (by decide) (op_eql rfl rfl ?_)
        | refine rl_step (by decide) (op_neq rfl rfl ?_)
        | refine rl_step (by decide) (op_not rfl ?_)
        | refine rl_step (by decide) (op_min rfl rfl ?_)
        | refine rl_step (by decide) (op_max rfl rfl ?_)
        | refine rl_step (by decide) (op_extract rfl rfl ?_)
        | refine rl_step (by decide) (op_add rfl rfl (by omega) ?_)
        | refine rl_step (by decide) (op_sub rfl rfl (by omega) ?_)
        | refine rl_step (by decide) (op_neg rfl (by omega) ?_)))
    refine region_dr (M := M1) 64 1 [] mixed rfl (by kernel_rfl) (fun w1 hs1 => ?_)
    replace hsa := hsa.mono hs1.x
    replace hsb := hsb.mono hs1.x
    replace hr := hr.up hs1
    refine dr_cons (isv va) (by decide) (mono_isv _) (ob0 rfl fun M w' hs2 => ?_) ?_
    · exact opg (op_move rfl ⟨_, UpM.refl _ _, rfl⟩)
    refine dr_cons (isv (.int .i64 i)) (by decide) (mono_isv _) (ob0 rfl fun M w' hs2 => ?_) ?_
    · exact opg (op_move rfl ⟨_, UpM.refl _ _, rfl⟩)
    refine dr_cons (isPtr ePg ps[i]) (by decide) (mono_isPtr _ _) (ob2 rfl fun M w' hs2 v1 k1 v2 k2 => ?_) ?_
    · cases k1; cases k2; exact opg (op_indexAddr uP teP rfl rfl (hsa.mono hs2.x) (by omega) fun ad hn he => ⟨_, UpM.refl _ _, ad, rfl, he⟩)
    refine dr_cons (isPtr eLb ((ps[i].num, ps[i].suf))) (by decide) (mono_isPtr _ _) (ob1 rfl fun M w' hs2 v1 k1 => ?_) ?_
    · obtain ⟨ad1, rfl, he1⟩ := k1; exact opg (op_fieldAddr fdP0 rfl ⟨_, UpM.refl _ _, _, rfl, he1.label⟩)
    refine dr_cons (isv ((.agg #[.int .i64 ps[i].num, .int .i64 ps[i].suf]))) (by decide) (mono_isv _) (ob1 rfl fun M w' hs2 v1 k1 => ?_) ?_
    · obtain ⟨ad1, rfl, he1⟩ := k1; exact opg (op_load teLb rfl he1 fun u hu => ⟨_, UpM.refl _ _, eLb_V hu⟩)
    refine dr_cons (isv vb) (by decide) (mono_isv _) (ob0 rfl fun M w' hs2 => ?_) ?_
    · exact opg (op_move rfl ⟨_, UpM.refl _ _, rfl⟩)
    refine dr_cons (isv (.int .i64 i)) (by decide) (mono_isv _) (ob0 rfl fun M w' hs2 => ?_) ?_
    · exact opg (op_move rfl ⟨_, UpM.refl _ _, rfl⟩)
    refine dr_cons (isPtr ePg ps[i]) (by decide) (mono_isPtr _ _) (ob2 rfl fun M w' hs2 v1 k1 v2 k2 => ?_) ?_
    · cases k1; cases k2; exact opg (op_indexAddr uP teP rfl rfl (hsb.mono hs2.x) (by omega) fun ad hn he => ⟨_, UpM.refl _ _, ad, rfl, he⟩)
    refine dr_cons (isPtr eLb ((ps[i].num, ps[i].suf))) (by decide) (mono_isPtr _ _) (ob1 rfl fun M w' hs2 v1 k1 => ?_) ?_
    · obtain ⟨ad1, rfl, he1⟩ := k1; exact opg (op_fieldAddr fdP0 rfl ⟨_, UpM.refl _ _, _, rfl, he1.label⟩)
    refine dr_cons (isv ((.agg #[.int .i64 ps[i].num, .int .i64 ps[i].suf]))) (by decide) (mono_isv _) (ob1 rfl fun M w' hs2 v1 k1 => ?_) ?_
    · obtain ⟨ad1, rfl, he1⟩ := k1; exact opg (op_load teLb rfl he1 fun u hu => ⟨_, UpM.refl _ _, eLb_V hu⟩)
    refine dr_cons (isv (.bool false)) (by decide) (mono_isv _) (ob2 rfl fun M w' hs2 v1 k1 v2 k2 => ?_) ?_
    · cases k1; cases k2; exact opg (op_neqLabel rfl rfl ⟨_, UpM.refl _ _, rfl⟩)
    refine dr_cons (isv (.bool false)) (by decide) (mono_isv _) (ob1 rfl fun M w' hs2 v1 k1 => ?_) ?_
    · cases k1; exact opg (op_move rfl ⟨_, UpM.refl _ _, rfl⟩)
    refine dr_cons (isv va) (by decide) (mono_isv _) (ob1 rfl fun M w' hs2 v1 k1 => ?_) ?_
    · cases k1; exact opg_yes rfl rfl (op_move rfl ⟨_, UpM.refl _ _, rfl⟩)
    refine dr_cons (isv (.int .i64 i)) (by decide) (mono_isv _) (ob1 rfl fun M w' hs2 v1 k1 => ?_) ?_
    · cases k1; exact opg_yes rfl rfl (op_move rfl ⟨_, UpM.refl _ _, rfl⟩)
    refine dr_cons (isPtr ePg ps[i]) (by decide) (mono_isPtr _ _) (ob3 rfl fun M w' hs2 v1 k1 v2 k2 v3 k3 => ?_) ?_
    · cases k1; cases k2; cases k3; exact opg_yes rfl rfl (op_indexAddr uP teP rfl rfl (hsa.mono hs2.x) (by omega) fun ad hn he => ⟨_, UpM.refl _ _, ad, rfl, he⟩)
    refine dr_cons (isPtr eI ps[i].entry) (by decide) (mono_isPtr _ _) (ob2 rfl fun M w' hs2 v1 k1 v2 k2 => ?_) ?_
    · cases k1; obtain ⟨ad2, rfl, he2⟩ := k2; exact opg_yes rfl rfl (op_fieldAddr fdP1 rfl ⟨_, UpM.refl _ _, _, rfl, he2.pg.1.2.2.1⟩)
    refine dr_cons (isv (.int .i64 ps[i].entry)) (by decide) (mono_isv _) (ob2 rfl fun M w' hs2 v1 k1 v2 k2 => ?_) ?_
    · cases k1; obtain ⟨ad2, rfl, he2⟩ := k2; exact opg_yes rfl rfl (op_load teI rfl he2 fun u hu => ⟨_, UpM.refl _ _, (eI_V.1 hu).1⟩)
    refine dr_cons (isv vb) (by decide) (mono_isv _) (ob1 rfl fun M w' hs2 v1 k1 => ?_) ?_
    · cases k1; exact opg_yes rfl rfl (op_move rfl ⟨_, UpM.refl _ _, rfl⟩)
    refine dr_cons (isv (.int .i64 i)) (by decide) (mono_isv _) (ob1 rfl fun M w' hs2 v1 k1 => ?_) ?_
    · cases k1; exact opg_yes rfl rfl (op_move rfl ⟨_, UpM.refl _ _, rfl⟩)
    refine dr_cons (isPtr ePg ps[i]) (by decide) (mono_isPtr _ _) (ob3 rfl fun M w' hs2 v1 k1 v2 k2 v3 k3 => ?_) ?_
    · cases k1; cases k2; cases k3; exact opg_yes rfl rfl (op_indexAddr uP teP rfl rfl (hsb.mono hs2.x) (by omega) fun ad hn he => ⟨_, UpM.refl _ _, ad, rfl, he⟩)
    refine dr_cons (isPtr eI ps[i].entry) (by decide) (mono_isPtr _ _) (ob2 rfl fun M w' hs2 v1 k1 v2 k2 => ?_) ?_
    · cases k1; obtain ⟨ad2, rfl, he2⟩ := k2; exact opg_yes rfl rfl (op_fieldAddr fdP1 rfl ⟨_, UpM.refl _ _, _, rfl, he2.pg.1.2.2.1⟩)
    refine dr_cons (isv (.int .i64 ps[i].entry)) (by decide) (mono_isv _) (ob2 rfl fun M w' hs2 v1 k1 v2 k2 => ?_) ?_
    · cases k1; obtain ⟨ad2, rfl, he2⟩ := k2; exact opg_yes rfl rfl (op_load teI rfl he2 fun u hu => ⟨_, UpM.refl _ _, (eI_V.1 hu).1⟩)
    refine dr_cons (isv (.bool false)) (by decide) (mono_isv _) (ob3 rfl fun M w' hs2 v1 k1 v2 k2 v3 k3 => ?_) ?_
    · cases k1; cases k2; cases k3; exact opg_yes rfl rfl (op_neq rfl rfl ⟨_, UpM.refl _ _, by rw [decide_eq_false (fun h => h rfl)]; rfl⟩)
    refine dr_cons (isv (.bool false)) (by decide) (mono_isv _) (ob2 rfl fun M w' hs2 v1 k1 v2 k2 => ?_) ?_
    · cases k1; cases k2; exact opg (op_pick_f rfl rfl ⟨_, UpM.refl _ _, rfl⟩)
    refine dr_cons (isv (.bool false)) (by decide) (mono_isv _) (ob1 rfl fun M w' hs2 v1 k1 => ?_) ?_
    · cases k1; exact opg (op_move rfl ⟨_, UpM.refl _ _, rfl⟩)
    refine dr_cons (isv va) (by decide) (mono_isv _) (ob1 rfl fun M w' hs2 v1 k1 => ?_) ?_
    · cases k1; exact opg_yes rfl rfl (op_move rfl ⟨_, UpM.refl _ _, rfl⟩)
    refine dr_cons (isv (.int .i64 i)) (by decide) (mono_isv _) (ob1 rfl fun M w' hs2 v1 k1 => ?_) ?_
    · cases k1; exact opg_yes rfl rfl (op_move rfl ⟨_, UpM.refl _ _, rfl⟩)
    refine dr_cons (isPtr ePg ps[i]) (by decide) (mono_isPtr _ _) (ob3 rfl fun M w' hs2 v1 k1 v2 k2 v3 k3 => ?_) ?_
    · cases k1; cases k2; cases k3; exact opg_yes rfl rfl (op_indexAddr uP teP rfl rfl (hsa.mono hs2.x) (by omega) fun ad hn he => ⟨_, UpM.refl _ _, ad, rfl, he⟩)
    refine dr_cons (isPtr eI ps[i].version) (by decide) (mono_isPtr _ _) (ob2 rfl fun M w' hs2 v1 k1 v2 k2 => ?_) ?_
    · cases k1; obtain ⟨ad2, rfl, he2⟩ := k2; exact opg_yes rfl rfl (op_fieldAddr fdP2 rfl ⟨_, UpM.refl _ _, _, rfl, he2.pg.1.2.2.2⟩)
    refine dr_cons (isv (.int .i64 ps[i].version)) (by decide) (mono_isv _) (ob2 rfl fun M w' hs2 v1 k1 v2 k2 => ?_) ?_
    · cases k1; obtain ⟨ad2, rfl, he2⟩ := k2; exact opg_yes rfl rfl (op_load teI rfl he2 fun u hu => ⟨_, UpM.refl _ _, (eI_V.1 hu).1⟩)
    refine dr_cons (isv vb) (by decide) (mono_isv _) (ob1 rfl fun M w' hs2 v1 k1 => ?_) ?_
    · cases k1; exact opg_yes rfl rfl (op_move rfl ⟨_, UpM.refl _ _, rfl⟩)
    refine dr_cons (isv (.int .i64 i)) (by decide) (mono_isv _) (ob1 rfl fun M w' hs2 v1 k1 => ?_) ?_
    · cases k1; exact opg_yes rfl rfl (op_move rfl ⟨_, UpM.refl _ _, rfl⟩)
    refine dr_cons (isPtr ePg ps[i]) (by decide) (mono_isPtr _ _) (ob3 rfl fun M w' hs2 v1 k1 v2 k2 v3 k3 => ?_) ?_
    · cases k1; cases k2; cases k3; exact opg_yes rfl rfl (op_indexAddr uP teP rfl rfl (hsb.mono hs2.x) (by omega) fun ad hn he => ⟨_, UpM.refl _ _, ad, rfl, he⟩)
    refine dr_cons (isPtr eI ps[i].version) (by decide) (mono_isPtr _ _) (ob2 rfl fun M w' hs2 v1 k1 v2 k2 => ?_) ?_
    · cases k1; obtain ⟨ad2, rfl, he2⟩ := k2; exact opg_yes rfl rfl (op_fieldAddr fdP2 rfl ⟨_, UpM.refl _ _, _, rfl, he2.pg.1.2.2.2⟩)
    refine dr_cons (isv (.int .i64 ps[i].version)) (by decide) (mono_isv _) (ob2 rfl fun M w' hs2 v1 k1 v2 k2 => ?_) ?_
    · cases k1; obtain ⟨ad2, rfl, he2⟩ := k2; exact opg_yes rfl rfl (op_load teI rfl he2 fun u hu => ⟨_, UpM.refl _ _, (eI_V.1 hu).1⟩)
    refine dr_cons (isv (.bool false)) (by decide) (mono_isv _) (ob3 rfl fun M w' hs2 v1 k1 v2 k2 v3 k3 => ?_) ?_
    · cases k1; cases k2; cases k3; exact opg_yes rfl rfl (op_neq rfl rfl ⟨_, UpM.refl _ _, by rw [decide_eq_false (fun h => h rfl)]; rfl⟩)
    refine dr_cons (isv (.bool false)) (by decide) (mono_isv _) (ob2 rfl fun M w' hs2 v1 k1 v2 k2 => ?_) ?_
    · cases k1; cases k2; exact opg (op_pick_f rfl rfl ⟨_, UpM.refl _ _, rfl⟩)
    refine dr_cons (isv (.bool false)) (by decide) (mono_isv _) (ob1 rfl fun M w' hs2 v1 k1 => ?_) ?_
    · cases k1; exact opg (op_move rfl ⟨_, UpM.refl _ _, rfl⟩)
    refine dr_cons (isv va) (by decide) (mono_isv _) (ob1 rfl fun M w' hs2 v1 k1 => ?_) ?_
    · cases k1; exact opg_yes rfl rfl (op_move rfl ⟨_, UpM.refl _ _, rfl⟩)
    refine dr_cons (isv (.int .i64 i)) (by decide) (mono_isv _) (ob1 rfl fun M w' hs2 v1 k1 => ?_) ?_
    · cases k1; exact opg_yes rfl rfl (op_move rfl ⟨_, UpM.refl _ _, rfl⟩)
    refine dr_cons (isPtr ePg ps[i]) (by decide) (mono_isPtr _ _) (ob3 rfl fun M w' hs2 v1 k1 v2 k2 v3 k3 => ?_) ?_
    · cases k1; cases k2; cases k3; exact opg_yes rfl rfl (op_indexAddr uP teP rfl rfl (hsa.mono hs2.x) (by omega) fun ad hn he => ⟨_, UpM.refl _ _, ad, rfl, he⟩)
    refine dr_cons (isPtr (eSl eLine) ps[i].body) (by decide) (mono_isPtr _ _) (ob2 rfl fun M w' hs2 v1 k1 v2 k2 => ?_) ?_
    · cases k1; obtain ⟨ad2, rfl, he2⟩ := k2; exact opg_yes rfl rfl (op_fieldAddr fdP3 rfl ⟨_, UpM.refl _ _, _, rfl, he2.pg.2.1⟩)
    refine dr_cons (isSl eLine ps[i].body) (by decide) (mono_isSl _ _) (ob2 rfl fun M w' hs2 v1 k1 v2 k2 => ?_) ?_
    · cases k1; obtain ⟨ad2, rfl, he2⟩ := k2; exact opg_yes rfl rfl (op_load teSL rfl he2 fun u hu => ⟨_, UpM.refl _ _, eSl_V.1 hu⟩)
    refine dr_cons (isv vb) (by decide) (mono_isv _) (ob1 rfl fun M w' hs2 v1 k1 => ?_) ?_
    · cases k1; exact opg_yes rfl rfl (op_move rfl ⟨_, UpM.refl _ _, rfl⟩)
    refine dr_cons (isv (.int .i64 i)) (by decide) (mono_isv _) (ob1 rfl fun M w' hs2 v1 k1 => ?_) ?_
    · cases k1; exact opg_yes rfl rfl (op_move rfl ⟨_, UpM.refl _ _, rfl⟩)
    refine dr_cons (isPtr ePg ps[i]) (by decide) (mono_isPtr _ _) (ob3 rfl fun M w' hs2 v1 k1 v2 k2 v3 k3 => ?_) ?_
    · cases k1; cases k2; cases k3; exact opg_yes rfl rfl (op_indexAddr uP teP rfl rfl (hsb.mono hs2.x) (by omega) fun ad hn he => ⟨_, UpM.refl _ _, ad, rfl, he⟩)
    refine dr_cons (isPtr (eSl eLine) ps[i].body) (by decide) (mono_isPtr _ _) (ob2 rfl fun M w' hs2 v1 k1 v2 k2 => ?_) ?_
    · cases k1; obtain ⟨ad2, rfl, he2⟩ := k2; exact opg_yes rfl rfl (op_fieldAddr fdP3 rfl ⟨_, UpM.refl _ _, _, rfl, he2.pg.2.1⟩)
    refine dr_cons (isSl eLine ps[i].body) (by decide) (mono_isSl _ _) (ob2 rfl fun M w' hs2 v1 k1 v2 k2 => ?_) ?_
    · cases k1; obtain ⟨ad2, rfl, he2⟩ := k2; exact opg_yes rfl rfl (op_load teSL rfl he2 fun u hu => ⟨_, UpM.refl _ _, eSl_V.1 hu⟩)
    refine dr_cons (isv (.bool true)) (by decide) (mono_isv _) (ob3 rfl fun M w' hs2 v1 k1 v2 k2 v3 k3 => ?_) ?_
    · cases k1; exact opg_yes rfl rfl (op_call ent27 rfl (sameLines_c M _ _ _ _ (hs2.mb hr.mb) k2 k3) fun u w2 hu => ⟨_, UpM.of_below hu.2, hu.1⟩)
    refine dr_cons (isv (.bool false)) (by decide) (mono_isv _) (ob2 rfl fun M w' hs2 v1 k1 v2 k2 => ?_) ?_
    · cases k1; cases k2; exact opg_yes rfl rfl (op_not rfl ⟨_, UpM.refl _ _, rfl⟩)
    refine dr_cons (isv (.bool false)) (by decide) (mono_isv _) (ob2 rfl fun M w' hs2 v1 k1 v2 k2 => ?_) ?_
    · cases k1; cases k2; exact opg (op_pick_f rfl rfl ⟨_, UpM.refl _ _, rfl⟩)
    refine dr_cons (isv (.bool false)) (by decide) (mono_isv _) (ob1 rfl fun M w' hs2 v1 k1 => ?_) ?_
    · cases k1; exact opg (op_move rfl ⟨_, UpM.refl _ _, rfl⟩)
    refine dr_cons (isv va) (by decide) (mono_isv _) (ob1 rfl fun M w' hs2 v1 k1 => ?_) ?_
    · cases k1; exact opg_yes rfl rfl (op_move rfl ⟨_, UpM.refl _ _, rfl⟩)
    refine dr_cons (isv (.int .i64 i)) (by decide) (mono_isv _) (ob1 rfl fun M w' hs2 v1 k1 => ?_) ?_
    · cases k1; exact opg_yes rfl rfl (op_move rfl ⟨_, UpM.refl _ _, rfl⟩)
    refine dr_cons (isPtr ePg ps[i]) (by decide) (mono_isPtr _ _) (ob3 rfl fun M w' hs2 v1 k1 v2 k2 v3 k3 => ?_) ?_
    · cases k1; cases k2; cases k3; exact opg_yes rfl rfl (op_indexAddr uP teP rfl rfl (hsa.mono hs2.x) (by omega) fun ad hn he => ⟨_, UpM.refl _ _, ad, rfl, he⟩)
    refine dr_cons (isPtr (eSl eLine) ps[i].notes) (by decide) (mono_isPtr _ _) (ob2 rfl fun M w' hs2 v1 k1 v2 k2 => ?_) ?_
    · cases k1; obtain ⟨ad2, rfl, he2⟩ := k2; exact opg_yes rfl rfl (op_fieldAddr fdP4 rfl ⟨_, UpM.refl _ _, _, rfl, he2.pg.2.2⟩)
    refine dr_cons (isSl eLine ps[i].notes) (by decide) (mono_isSl _ _) (ob2 rfl fun M w' hs2 v1 k1 v2 k2 => ?_) ?_
    · cases k1; obtain ⟨ad2, rfl, he2⟩ := k2; exact opg_yes rfl rfl (op_load teSL rfl he2 fun u hu => ⟨_, UpM.refl _ _, eSl_V.1 hu⟩)
    refine dr_cons (isv vb) (by decide) (mono_isv _) (ob1 rfl fun M w' hs2 v1 k1 => ?_) ?_
    · cases k1; exact opg_yes rfl rfl (op_move rfl ⟨_, UpM.refl _ _, rfl⟩)
    refine dr_cons (isv (.int .i64 i)) (by decide) (mono_isv _) (ob1 rfl fun M w' hs2 v1 k1 => ?_) ?_
    · cases k1; exact opg_yes rfl rfl (op_move rfl ⟨_, UpM.refl _ _, rfl⟩)
    refine dr_cons (isPtr ePg ps[i]) (by decide) (mono_isPtr _ _) (ob3 rfl fun M w' hs2 v1 k1 v2 k2 v3 k3 => ?_) ?_
    · cases k1; cases k2; cases k3; exact opg_yes rfl rfl (op_indexAddr uP teP rfl rfl (hsb.mono hs2.x) (by omega) fun ad hn he => ⟨_, UpM.refl _ _, ad, rfl, he⟩)
    refine dr_cons (isPtr (eSl eLine) ps[i].notes) (by decide) (mono_isPtr _ _) (ob2 rfl fun M w' hs2 v1 k1 v2 k2 => ?_) ?_
    · cases k1; obtain ⟨ad2, rfl, he2⟩ := k2; exact opg_yes rfl rfl (op_fieldAddr fdP4 rfl ⟨_, UpM.refl _ _, _, rfl, he2.pg.2.2⟩)
    refine dr_cons (isSl eLine ps[i].notes) (by decide) (mono_isSl _ _) (ob2 rfl fun M w' hs2 v1 k1 v2 k2 => ?_) ?_
    · cases k1; obtain ⟨ad2, rfl, he2⟩ := k2; exact opg_yes rfl rfl (op_load teSL rfl he2 fun u hu => ⟨_, UpM.refl _ _, eSl_V.1 hu⟩)
    refine dr_cons (isv (.bool true)) (by decide) (mono_isv _) (ob3 rfl fun M w' hs2 v1 k1 v2 k2 v3 k3 => ?_) ?_
    · cases k1; exact opg_yes rfl rfl (op_call ent27 rfl (sameLines_c M _ _ _ _ (hs2.mb hr.mb) k2 k3) fun u w2 hu => ⟨_, UpM.of_below hu.2, hu.1⟩)
    refine dr_cons (isv (.bool false)) (by decide) (mono_isv _) (ob2 rfl fun M w' hs2 v1 k1 v2 k2 => ?_) ?_
    · cases k1; cases k2; exact opg_yes rfl rfl (op_not rfl ⟨_, UpM.refl _ _, rfl⟩)
    refine dr_nil rfl (fun M3 w4 val hs2 hall => ?_)
    obtain ⟨h80, _, _, _, _, _, _, _, _, _, _, _, h68, _⟩ := hall
    have e80 : val 80 = _ := h80; have e68 : val 68 = _ := h68
    replace hsa := hsa.mono hs2.x
    replace hsb := hsb.mono hs2.x
    replace hr := hr.up hs2
    refine RT.sub (fr' := [(0, va), (1, vb), (5, .int .i64 i), (68, val 68), (80, val 80)]) ?_ (by repeat (first | exact trivial | refine ⟨rfl, ?_⟩))
    rw [e68, e80]
    refine rt_one (i := 64) (by kernel_rfl) rfl (by decide) (op_pick_f rfl rfl ?_)
    refine rt_nil (by kernel_rfl) ?_
    (repeat (first
        | refine run_seq ?_
        | refine run_region_l ?_
        | refine rl_nil ?_
        | refine rl_step (by decide) (op_move rfl ?_)
        | refine rl_step (by decide) (op_assign rfl ?_)
        | refine run_block ?_
        | refine run_inBlock ?_
        | refine run_exit rfl ?_
        | refine run_skip ?_
        | refine run_label ?_
        | refine run_true rfl ?_
        | refine run_false rfl ?_
        | refine rl_yes rfl rfl ?_
        | refine rl_no rfl rfl rfl (by decide) ?_
        | refine rl_step (by decide) (op_pick_t rfl rfl ?_)
        | refine rl_step (by decide) (op_pick_f rfl rfl ?_)
        | refine rl_step (by decide) (op_lss rfl rfl ?_)
        | refine rl_step (by decide) (op_leq rfl rfl ?_)
        | refine rl_step (by decide) (op_gtr rfl rfl ?_)
        | refine rl_step (by decide) (op_geq rfl rfl ?_)
        | refine rl_step (by decide) (op_eql rfl rfl ?_)
        | refine rl_step (by decide) (op_neq rfl rfl ?_)
        | refine rl_step (by decide) (op_not rfl ?_)
        | refine rl_step (by decide) (op_min rfl rfl ?_)
        | refine rl_step (by decide) (op_max rfl rfl ?_)
        | refine rl_step (by decide) (op_extract rfl rfl ?_)
        | refine rl_step (by decide) (op_add rfl rfl (by omega) ?_)
        | refine rl_step (by decide) (op_sub rfl rfl (by omega) ?_)
        | refine rl_step (by decide) (op_neg rfl (by omega) ?_)))
    exact (ih (i + 1, M3) _ ⟨by simp only; omega, hr, hsa, hsb⟩ (by simp only; omega)).sub (by repeat (first | exact trivial | refine ⟨rfl, ?_⟩))
  · (repeat (first
        | refine run_seq ?_
        | refine run_region_l ?_
        | refine rl_nil ?_
        | refine rl_step (by decide) (op_move rfl ?_)
        | refine rl_step (by decide) (op_assign rfl ?_)
        | refine run_block ?_
        | refine run_inBlock ?_
        | refine run_exit rfl ?_
        | refine run_skip ?_
        | refine run_label ?_
        | refine run_true rfl ?_
        | refine run_false rfl ?_
        | refine rl_yes rfl rfl ?_
        | refine rl_no rfl rfl rfl (by decide) ?_
        | refine rl_step (by decide) (op_pick_t rfl rfl ?_)
        | refine rl_step (by decide) (op_pick_f rfl rfl ?_)
        | refine rl_step (by decide) (op_lss rfl rfl ?_)
        | refine rl_step (by decide) (op_leq rfl rfl ?_)
        | refine rl_step (by decide) (op_gtr rfl rfl ?_)
        | refine rl_step (by decide) (op_geq rfl rfl ?_)
        | refine rl_step (by decide) (op_eql rfl rfl ?_)
        | refine rl_step (by decide) (op_neq rfl rfl ?_)
        | refine rl_step (by decide) (op_not rfl ?_)
        | refine rl_step (by decide) (op_min rfl rfl ?_)
        | refine rl_step (by decide) (op_max rfl rfl ?_)
        | refine rl_step (by decide) (op_extract rfl rfl ?_)
        | refine rl_step (by decide) (op_add rfl rfl (by omega) ?_)
        | refine rl_step (by decide) (op_sub rfl rfl (by omega) ?_)
        | refine rl_step (by decide) (op_neg rfl (by omega) ?_)))
    refine run_ret1 Try.func21 rfl rfl ?_
    exact ⟨rfl, hr.bel⟩

end Go.Proofs.Ytocoinkhbjlbhaa
