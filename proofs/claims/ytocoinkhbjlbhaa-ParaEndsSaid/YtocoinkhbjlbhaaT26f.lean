/-
  slices.Repeat of one number: a row of its own.
-/
import Derived.Test.YtocoinkhbjlbhaaT26d
namespace Go.Proofs.Ytocoinkhbjlbhaa
open Go Go.RowKit

class ICc (P : Program) (t : TypeId) (k : outParam IntKind) : Prop where
  out : P.underlying t = some (.int k)
instance : ICc Try.prog 3 .i64 := ⟨Try.underlying3⟩
instance : ICc Try.prog 77 .u64 := ⟨Try.underlying77⟩
instance : ICc Try.prog 85 .u64 := ⟨Try.underlying85⟩

theorem wrap_u64 {n : Int} (h : 0 ≤ n ∧ n ≤ 18446744073709551615) : IntKind.wrap .u64 n = n := by
  have e : n % 18446744073709551616 = n := Int.emod_eq_of_lt h.1 (by omega)
  simp [IntKind.wrap, IntKind.bits, IntKind.signed, e]
theorem wrap_i64 {n : Int} (h : 0 ≤ n ∧ n ≤ 9223372036854775807) : IntKind.wrap .i64 n = n := by
  have e : n % 18446744073709551616 = n := Int.emod_eq_of_lt h.1 (by omega)
  simp [IntKind.wrap, IntKind.bits, IntKind.signed, e]
  omega
theorem rngU {n : Int} : Rng .u64 n := ⟨(fun h => by cases h), (fun h => by cases h)⟩

section
variable {P : Program} {N : Nat} {G : TF} {d : Option Tmp} {ty : TypeId} {pos : String} {aft : Array Edge} {g : Option (Nat × Bool)} {x y : Operand} {m n : Int} {t u : TypeId}
theorem t_cvU {k : IntKind} (hx : topP G x = some (pK k n) := by rfl) (ht : ICc P u .u64 := by infer_instance) (hs : ICc P t k := by infer_instance) (h : 0 ≤ n ∧ n ≤ 9223372036854775807 := by omega) : TOp P N ⟨d, .convert t u x, ty, pos, aft, g⟩ G [] (.pu (pK .u64 n)) := .pure [x] (by simp [Op.operands]) fun {B M w fr} hf => by
  obtain ⟨_, h0, rfl, _⟩ := hf.op hx (by simp)
  have hk : P.intKind u = .u64 := by simp [Program.intKind, ht.out]
  have hrun := run_convert_int (P := P) w t u k n (by rw [hs.out]; rfl) (by rw [hk]; exact ht.out)
  rw [hk, wrap_u64 (by omega)] at hrun
  exact OP.val (fun a ha => by simp only [execOp, ha.eval h0, Sem.run_bind, hrun]; rfl) ⟨rfl, rfl, rngU⟩
theorem t_cvI {k : IntKind} (hx : topP G x = some (pK k n) := by rfl) (ht : ICc P u .i64 := by infer_instance) (hs : ICc P t k := by infer_instance) (h : 0 ≤ n ∧ n ≤ 9223372036854775807 := by omega) : TOp P N ⟨d, .convert t u x, ty, pos, aft, g⟩ G [] (.pu (pK .i64 n)) := .pure [x] (by simp [Op.operands]) fun {B M w fr} hf => by
  obtain ⟨_, h0, rfl, _⟩ := hf.op hx (by simp)
  have hk : P.intKind u = .i64 := by simp [Program.intKind, ht.out]
  have hrun := run_convert_int (P := P) w t u k n (by rw [hs.out]; rfl) (by rw [hk]; exact ht.out)
  rw [hk, wrap_i64 h] at hrun
  exact OP.val (fun a ha => by simp only [execOp, ha.eval h0, Sem.run_bind, hrun]; rfl) ⟨rfl, rfl, rng64 (by omega)⟩
theorem t_mulU (hx : topP G x = some (pK .u64 m) := by rfl) (hy : topP G y = some (pK .u64 n) := by rfl) (r : Int) (he : m * n = r) (hr : 0 ≤ r ∧ r ≤ 18446744073709551615) : TOp P N ⟨d, .binOp .mul t x y u, ty, pos, aft, g⟩ G [] (.pu (pK .u64 r)) := .pure [x, y] (by simp [Op.operands]) fun hf => by
  obtain ⟨_, h0, rfl, _⟩ := hf.op hx (by simp)
  obtain ⟨_, h1, rfl, _⟩ := hf.op hy (by simp)
  exact OP.val (v := .int .u64 r) (fun a ha => by simp [execOp, ha.eval h0, ha.eval h1, eqGuard_at_int, binOp_mul, Op.intArith, he, wrap_u64 hr]) ⟨rfl, rfl, rngU⟩
theorem t_addU (hx : topP G x = some (pK .u64 m) := by rfl) (hy : topP G y = some (pK .u64 n) := by rfl) (hr : 0 ≤ m + n ∧ m + n ≤ 18446744073709551615 := by omega) : TOp P N ⟨d, .binOp .add t x y u, ty, pos, aft, g⟩ G [] (.pu (pK .u64 (m + n))) := .pure [x, y] (by simp [Op.operands]) fun hf => by
  obtain ⟨_, h0, rfl, _⟩ := hf.op hx (by simp)
  obtain ⟨_, h1, rfl, _⟩ := hf.op hy (by simp)
  exact OP.val (v := .int .u64 (m + n)) (fun a ha => by simp [execOp, ha.eval h0, ha.eval h1, eqGuard_at_int, binOp_add, Op.intArith, wrap_u64 hr]) ⟨rfl, rfl, rngU⟩
theorem and_mask {n : Int} (h : 0 ≤ n ∧ n ≤ 4294967295) : (((BitVec.ofInt 64 n) &&& (BitVec.ofInt 64 4294967295)).toNat : Int) = n := by
  obtain ⟨k, rfl⟩ : ∃ k : Nat, n = k := ⟨n.toNat, by omega⟩
  have e1 : (BitVec.ofInt 64 (k : Int)).toNat = k := by
    rw [BitVec.toNat_ofInt]
    have : ((k : Int) % ((2 ^ 64 : Nat) : Int)) = k := Int.emod_eq_of_lt (by omega) (by omega)
    rw [this, Int.toNat_natCast]
  have e2 : (BitVec.ofInt 64 4294967295).toNat = 2 ^ 32 - 1 := by rfl
  rw [BitVec.toNat_and, e1, e2, Nat.and_two_pow_sub_one_eq_mod, Nat.mod_eq_of_lt (by omega)]
theorem t_mask (hx : topP G x = some (pK .u64 n) := by rfl) (hy : topP G y = some (pK .u64 4294967295) := by rfl) (h : 0 ≤ n ∧ n ≤ 4294967295 := by omega) : TOp P N ⟨d, .binOp .and t x y u, ty, pos, aft, g⟩ G [] (.pu (pK .u64 n)) := .pure [x, y] (by simp [Op.operands]) fun hf => by
  obtain ⟨_, h0, rfl, _⟩ := hf.op hx (by simp)
  obtain ⟨_, h1, rfl, _⟩ := hf.op hy (by simp)
  have hm : (((BitVec.ofInt IntKind.u64.bits n) &&& (BitVec.ofInt IntKind.u64.bits 4294967295)).toNat : Int) = n := and_mask h
  exact OP.val (v := .int .u64 n) (fun a ha => by
    simp only [execOp, ha.eval h0, ha.eval h1, eqGuard_at_int, binOp_and, Op.intBits]
    simp only [hm, wrap_u64 (show 0 ≤ n ∧ n ≤ 18446744073709551615 by omega)]
    rfl) ⟨rfl, rfl, rngU⟩
theorem t_shr0 (hx : topP G x = some (pK .u64 n) := by rfl) (hy : topP G y = some (pK .u64 32) := by rfl) (h : 0 ≤ n ∧ n ≤ 4294967295 := by omega) : TOp P N ⟨d, .binOp .shr t x y u, ty, pos, aft, g⟩ G [] (.pu (pK .u64 0)) := .pure [x, y] (by simp [Op.operands]) fun hf => by
  obtain ⟨_, h0, rfl, _⟩ := hf.op hx (by simp)
  obtain ⟨_, h1, rfl, _⟩ := hf.op hy (by simp)
  have e : n.fdiv 4294967296 = 0 := by
    rw [Int.fdiv_eq_ediv_of_nonneg _ (by omega)]
    exact Int.ediv_eq_zero_of_lt h.1 (by omega)
  exact OP.val (v := .int .u64 0) (fun a ha => by simp [execOp, ha.eval h0, ha.eval h1, eqGuard_at_int, binOp_shr, Op.shift, IntKind.bits, e]) ⟨rfl, rfl, rngU⟩
end

theorem mul64_f {k : Int} (h : 0 ≤ k ∧ k ≤ 1000000) : Fn Try.prog 70 [pK .u64 1, pK .u64 k] (pT2 (pK .u64 0) (pK .u64 k)) := by
  refine fn_of ent70 Try.func70 rfl Try.ntmps70 rfl fun M0 w0 => ?_
  (repeat (first | refine c_seq ?_ | refine c_reg ?_ | refine c_rnil ?_ | refine c_block ?_ | refine c_inBlock ?_ | refine c_exit ?_ | refine c_skip ?_ | refine c_label ?_ | refine c_true ?_ | refine c_false ?_ | refine c_yes ?_ | refine c_no ?_ | refine c_op (by first | exact (t_mask) | exact (t_shr0) | exact (t_addU) | exact (t_mulU (r := k) (he := by omega) (hr := by omega)) | exact (t_mulU (r := 0) (he := by omega) (hr := by omega)) | exact t_moveG | exact t_move | exact t_moveO | exact t_assignG | exact t_assignO | exact t_assign | exact t_pickT | exact t_pickF | exact t_add | exact t_sub | exact t_neg | exact t_not | exact t_min | exact t_max | exact t_lssT | exact t_lssF | exact t_lss | exact t_leqT | exact t_leqF | exact t_leq | exact t_gtrT | exact t_gtrF | exact t_gtr | exact t_geqT | exact t_geqF | exact t_geq | exact t_eqlT | exact t_eqlF | exact t_eql | exact t_neqT | exact t_neqF | exact t_neq | exact t_ext0 | exact t_ext1 | exact t_ext30 | exact t_ext31 | exact t_ext32 | exact t_len | exact t_lenN | exact t_lenR | exact t_idxN | exact t_idx | exact t_load | exact t_fa | exact t_fv | exact t_bl | exact t_sliceG | exact t_sliceLHN | exact t_sliceLN | exact t_sliceHN | exact t_sliceLH | exact t_sliceL | exact t_sliceH | exact t_bs | exact t_quo | exact t_rem | exact t_boxP) ?_ | refine c_opW t_app ?_))
  refine c_ret2 Try.func70 rfl ?_
  exact fun h1 h2 => ⟨_, _, rfl, h1, h2⟩

theorem mul_f {k : Int} (h : 0 ≤ k ∧ k ≤ 1000000) : Fn Try.prog 66 [pK .u64 1, pK .u64 k] (pT2 (pK .u64 0) (pK .u64 k)) := by
  refine fn_of ent66 Try.func66 rfl Try.ntmps66 rfl fun M0 w0 => ?_
  (repeat (first | refine c_seq ?_ | refine c_reg ?_ | refine c_rnil ?_ | refine c_block ?_ | refine c_inBlock ?_ | refine c_exit ?_ | refine c_skip ?_ | refine c_label ?_ | refine c_true ?_ | refine c_false ?_ | refine c_yes ?_ | refine c_no ?_ | refine c_op (by first | exact t_call (h := (mul64_f h)) | exact t_moveG | exact t_move | exact t_moveO | exact t_assignG | exact t_assignO | exact t_assign | exact t_pickT | exact t_pickF | exact t_add | exact t_sub | exact t_neg | exact t_not | exact t_min | exact t_max | exact t_lssT | exact t_lssF | exact t_lss | exact t_leqT | exact t_leqF | exact t_leq | exact t_gtrT | exact t_gtrF | exact t_gtr | exact t_geqT | exact t_geqF | exact t_geq | exact t_eqlT | exact t_eqlF | exact t_eql | exact t_neqT | exact t_neqF | exact t_neq | exact t_ext0 | exact t_ext1 | exact t_ext30 | exact t_ext31 | exact t_ext32 | exact t_len | exact t_lenN | exact t_lenR | exact t_idxN | exact t_idx | exact t_load | exact t_fa | exact t_fv | exact t_bl | exact t_sliceG | exact t_sliceLHN | exact t_sliceLN | exact t_sliceHN | exact t_sliceLH | exact t_sliceL | exact t_sliceH | exact t_bs | exact t_quo | exact t_rem | exact t_boxP) ?_ | refine c_opW t_app ?_))
  refine c_ret2 Try.func66 rfl ?_
  exact fun h1 h2 => ⟨_, _, rfl, h1, h2⟩

end Go.Proofs.Ytocoinkhbjlbhaa
