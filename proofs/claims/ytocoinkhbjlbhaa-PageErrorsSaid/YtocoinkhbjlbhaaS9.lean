/-
  Walk: bodies and notes made from numbers.
-/
import Derived.Test.YtocoinkhbjlbhaaS8
namespace Go.Proofs.Ytocoinkhbjlbhaa
open Go Go.RowKit

theorem look_int {fr : Fr} {t : Nat} {a b : Int} (h : look fr t = some (.int .i64 a)) (e : a = b) : look fr t = some (.int .i64 b) := e ▸ h

/-- A slice of numbers that came in: of its size nothing is known. -/
structure SlBg (M : Mut) (w : World) (v : Value) (l : List Int) : Prop where
  ex : ∃ a cap, v = .slice a l.length cap ∧ l.length ≤ cap ∧ cap ≤ maxLen ∧ (a = none → cap = 0) ∧ ∀ ad, a = some ad → ∀ (i : Nat) (hi : i < l.length), Elem eI M w (ad.add (i * eI.sz)) l[i]

theorem SlBg.mono {M M' : Mut} {w w' : World} {v : Value} {l : List Int} (h : SlBg M w v l) (hx : X M w M' w') : SlBg M' w' v l := by
  obtain ⟨a, cap, h1, h2, h3, h4, h6⟩ := h.ex
  exact ⟨a, cap, h1, h2, h3, h4, fun ad e i hi => (h6 ad e i hi).mono hx⟩

theorem SlBg.nil (M : Mut) (w : World) : SlBg M w (.slice none 0 0) [] := ⟨none, 0, rfl, Nat.le_refl _, Nat.zero_le _, fun _ => rfl, fun _ e => by cases e⟩

section
variable {P : Program} {N : Nat} {fr : Fr} {w : World} {Ψ : Value → World → Prop} {d : Option Tmp} {ty : TypeId} {pos : String} {aft : Array Edge} {g : Option (Nat × Bool)}
theorem op_lenB {M : Mut} {x : Operand} {v : Value} {l : List Int} {t e : TypeId} (ht : P.underlying t = some (.slice e)) (hx : opv fr x = some v) (hs : SlBg M w v l)
    (h : Ψ (.int .i64 l.length) w) : OP P N ⟨d, .call ⟨.builtin .len, #[x], #[t]⟩, ty, pos, aft, g⟩ fr w Ψ := by
  obtain ⟨ad, cap, h1, _⟩ := hs.ex
  exact op_lenv ht (h1 ▸ hx) h

theorem op_indexAddrB {M : Mut} {x i : Operand} {v : Value} {l : List Int} {t e : TypeId} {k : IntKind} {n : Int} (ht : P.underlying t = some (.slice e)) (hE : TE P e eI)
    (hx : opv fr x = some v) (hi : opv fr i = some (.int k n)) (hs : SlBg M w v l) (h0 : 0 ≤ n ∧ n < l.length)
    (h : ∀ ad (hn : n.toNat < l.length), Elem eI M w ad l[n.toNat] → Ψ (.pointer (some ad)) w) : OP P N ⟨d, .indexAddr t x i, ty, pos, aft, g⟩ fr w Ψ := by
  obtain ⟨a0, cap, h1, h2, h3, h4, h6⟩ := hs.ex
  cases a0 with
  | none => have := h4 rfl; omega
  | some ad =>
    have h6 := h6 ad rfl
    obtain ⟨z, hz, hT⟩ := hE
    refine OP.val (v := .pointer (some (ad.add (n.toNat * eI.sz)))) (w' := w) (fun a ha => ?_) (h _ (by omega) (h6 _ (by omega)))
    have hel : P.elem t = e := by simp [Program.elem, ht]
    have hr := run_indexAt_slice (P := P) w t ad l.length cap k n (by rw [hel]; exact ht)
    rw [hel, if_pos h0] at hr
    simp only [execOp, ha.eval hx, ha.eval hi, h1]
    simp [hr, hT.run_sizeOf (w := w)]
end

theorem intsIn {W : World} {x : Addr} {len cap : Nat} {zs : List Int} (hl : len ≤ cap) (hm : cap ≤ maxLen) (hz : zs.length = cap) (hcell : ∀ i, i < zs.length → W.cell? (x.add i) = some (.int .i64 (zs.getD i 0))) (hwz : ∀ n ∈ zs, (Lit.int .i64 n).wf = true) :
    SlBg (fun _ => none) W (.slice (some x) len cap) (zs.take len) := by
  have e : (zs.take len).length = len := by rw [List.length_take]; omega
  refine ⟨some x, cap, by rw [e], by rw [e]; exact hl, hm, (fun h => by cases h), fun ad ha i hi => ?_⟩
  cases ha
  have hi' : i < zs.length := by omega
  have hc := hcell i hi'
  rw [List.getD_eq_getElem?_getD, List.getElem?_eq_getElem hi', Option.getD_some] at hc
  have hg : (zs.take len)[i] = zs[i] := List.getElem_take
  rw [hg]
  refine ⟨[.int .i64 zs[i]], ⟨rfl, fun _ => ?_, fun e => by cases e⟩, fun j c hj => ?_⟩
  · have := hwz zs[i] (List.getElem_mem hi')
    simp [Lit.wf] at this
    exact this
  · cases j with
    | succ j => simp at hj
    | zero =>
      simp at hj
      subst hj
      rw [add_add']
      exact ⟨by simpa [eI, eN] using hc, fun p hp => by cases hp⟩

theorem i_len {M : Mut} {w : World} {v : Value} {l : List Int} (h : SlOf eI M w v l) : (l.length : Int) ≤ 17592186044416 := by
  have := h.bytes
  have e : eI.by_ = 8 := rfl
  rw [e] at this
  omega

theorem pick03 (M : Mut) (v : Value) (l : List Int) (i m : Int) (w : World) (hs : SlBg M w v l) (hm : 1 ≤ m) :
    CallsV Try.prog 29 [v, .int .i64 i, .int .i64 m] w (fun u w' => (∃ r, u = .int .i64 r ∧ 0 ≤ r ∧ r < m) ∧ w' = w) := by
  refine callsV_of_run Try.func29 rfl Try.ntmps29 (Nat.le_of_ble_eq_true rfl) ?_
  (repeat (first
      | refine run_seq ?_
      | refine run_region_l ?_
      | refine rl_nil ?_
      | refine rl_step (by decide) (op_move rfl ?_)
      | refine rl_step (by decide) (op_assign rfl ?_)
      | refine run_block ?_
      | refine run_inBlock ?_
      | refine run_exit rfl ?_
      | refine run_skip ?_
      | refine run_label ?_
      | refine run_true rfl ?_
      | refine run_false rfl ?_
      | refine rl_yes rfl rfl ?_
      | refine rl_no rfl rfl rfl (by decide) ?_
      | refine rl_step (by decide) (op_pick_t rfl rfl ?_)
      | refine rl_step (by decide) (op_pick_f rfl rfl ?_)
      | refine rl_step (by decide) (op_lss rfl rfl ?_)
      | refine rl_step (by decide) (op_leq rfl rfl ?_)
      | refine rl_step (by decide) (op_gtr rfl rfl ?_)
      | refine rl_step (by decide) (op_geq rfl rfl ?_)
      | refine rl_step (by decide) (op_eql rfl rfl ?_)
      | refine rl_step (by decide) (op_neq rfl rfl ?_)
      | refine rl_step (by decide) (op_not rfl ?_)
      | refine rl_step (by decide) (op_min rfl rfl ?_)
      | refine rl_step (by decide) (op_max rfl rfl ?_)
      | refine rl_step (by decide) (op_extract rfl rfl ?_)
      | refine rl_step (by decide) (op_add rfl rfl (by omega) ?_)
      | refine rl_step (by decide) (op_sub rfl rfl (by omega) ?_)
      | refine rl_step (by decide) (op_neg rfl (by omega) ?_)))
  refine rl_part 9 rfl (fun h0 => ?_) (fun h0 => ?_)
  · (repeat (first
        | refine run_seq ?_
        | refine run_region_l ?_
        | refine rl_nil ?_
        | refine rl_step (by decide) (op_move rfl ?_)
        | refine rl_step (by decide) (op_assign rfl ?_)
        | refine run_block ?_
        | refine run_inBlock ?_
        | refine run_exit rfl ?_
        | refine run_skip ?_
        | refine run_label ?_
        | refine run_true rfl ?_
        | refine run_false rfl ?_
        | refine rl_yes rfl rfl ?_
        | refine rl_no rfl rfl rfl (by decide) ?_
        | refine rl_step (by decide) (op_pick_t rfl rfl ?_)
        | refine rl_step (by decide) (op_pick_f rfl rfl ?_)
        | refine rl_step (by decide) (op_lss rfl rfl ?_)
        | refine rl_step (by decide) (op_leq rfl rfl ?_)
        | refine rl_step (by decide) (op_gtr rfl rfl ?_)
        | refine rl_step (by decide) (op_geq rfl rfl ?_)
        | refine rl_step (by decide) (op_eql rfl rfl ?_)
        | refine rl_step (by decide) (op_neq rfl rfl ?_)
        | refine rl_step (by decide) (op_not rfl ?_)
        | refine rl_step (by decide) (op_min rfl rfl ?_)
        | refine rl_step (by decide) (op_max rfl rfl ?_)
        | refine rl_step (by decide) (op_extract rfl rfl ?_)
        | refine rl_step (by decide) (op_add rfl rfl (by omega) ?_)
        | refine rl_step (by decide) (op_sub rfl rfl (by omega) ?_)
        | refine rl_step (by decide) (op_neg rfl (by omega) ?_)))
    refine run_ret1 Try.func29 rfl rfl ?_
    exact ⟨⟨0, rfl, by omega, by omega⟩, rfl⟩
  (repeat (first
      | refine run_seq ?_
      | refine run_region_l ?_
      | refine rl_nil ?_
      | refine rl_step (by decide) (op_move rfl ?_)
      | refine rl_step (by decide) (op_assign rfl ?_)
      | refine run_block ?_
      | refine run_inBlock ?_
      | refine run_exit rfl ?_
      | refine run_skip ?_
      | refine run_label ?_
      | refine run_true rfl ?_
      | refine run_false rfl ?_
      | refine rl_yes rfl rfl ?_
      | refine rl_no rfl rfl rfl (by decide) ?_
      | refine rl_step (by decide) (op_pick_t rfl rfl ?_)
      | refine rl_step (by decide) (op_pick_f rfl rfl ?_)
      | refine rl_step (by decide) (op_lss rfl rfl ?_)
      | refine rl_step (by decide) (op_leq rfl rfl ?_)
      | refine rl_step (by decide) (op_gtr rfl rfl ?_)
      | refine rl_step (by decide) (op_geq rfl rfl ?_)
      | refine rl_step (by decide) (op_eql rfl rfl ?_)
      | refine rl_step (by decide) (op_neq rfl rfl ?_)
      | refine rl_step (by decide) (op_not rfl ?_)
      | refine rl_step (by decide) (op_min rfl rfl ?_)
      | refine rl_step (by decide) (op_max rfl rfl ?_)
      | refine rl_step (by decide) (op_extract rfl rfl ?_)
      | refine rl_step (by decide) (op_add rfl rfl (by omega) ?_)
      | refine rl_step (by decide) (op_sub rfl rfl (by omega) ?_)
      | refine rl_step (by decide) (op_neg rfl (by omega) ?_)))
  refine rl_step (by decide) (op_lenB uI rfl hs ?_)
  (repeat (first
      | refine run_seq ?_
      | refine run_region_l ?_
      | refine rl_nil ?_
      | refine rl_step (by decide) (op_move rfl ?_)
      | refine rl_step (by decide) (op_assign rfl ?_)
      | refine run_block ?_
      | refine run_inBlock ?_
      | refine run_exit rfl ?_
      | refine run_skip ?_
      | refine run_label ?_
      | refine run_true rfl ?_
      | refine run_false rfl ?_
      | refine rl_yes rfl rfl ?_
      | refine rl_no rfl rfl rfl (by decide) ?_
      | refine rl_step (by decide) (op_pick_t rfl rfl ?_)
      | refine rl_step (by decide) (op_pick_f rfl rfl ?_)
      | refine rl_step (by decide) (op_lss rfl rfl ?_)
      | refine rl_step (by decide) (op_leq rfl rfl ?_)
      | refine rl_step (by decide) (op_gtr rfl rfl ?_)
      | refine rl_step (by decide) (op_geq rfl rfl ?_)
      | refine rl_step (by decide) (op_eql rfl rfl ?_)
      | refine rl_step (by decide) (op_neq rfl rfl ?_)
      | refine rl_step (by decide) (op_not rfl ?_)
      | refine rl_step (by decide) (op_min rfl rfl ?_)
      | refine rl_step (by decide) (op_max rfl rfl ?_)
      | refine rl_step (by decide) (op_extract rfl rfl ?_)
      | refine rl_step (by decide) (op_add rfl rfl (by omega) ?_)
      | refine rl_step (by decide) (op_sub rfl rfl (by omega) ?_)
      | refine rl_step (by decide) (op_neg rfl (by omega) ?_)))
  refine run_if rfl (fun h1 => ?_) (fun h1 => ?_)
  · (repeat (first
        | refine run_seq ?_
        | refine run_region_l ?_
        | refine rl_nil ?_
        | refine rl_step (by decide) (op_move rfl ?_)
        | refine rl_step (by decide) (op_assign rfl ?_)
        | refine run_block ?_
        | refine run_inBlock ?_
        | refine run_exit rfl ?_
        | refine run_skip ?_
        | refine run_label ?_
        | refine run_true rfl ?_
        | refine run_false rfl ?_
        | refine rl_yes rfl rfl ?_
        | refine rl_no rfl rfl rfl (by decide) ?_
        | refine rl_step (by decide) (op_pick_t rfl rfl ?_)
        | refine rl_step (by decide) (op_pick_f rfl rfl ?_)
        | refine rl_step (by decide) (op_lss rfl rfl ?_)
        | refine rl_step (by decide) (op_leq rfl rfl ?_)
        | refine rl_step (by decide) (op_gtr rfl rfl ?_)
        | refine rl_step (by decide) (op_geq rfl rfl ?_)
        | refine rl_step (by decide) (op_eql rfl rfl ?_)
        | refine rl_step (by decide) (op_neq rfl rfl ?_)
        | refine rl_step (by decide) (op_not rfl ?_)
        | refine rl_step (by decide) (op_min rfl rfl ?_)
        | refine rl_step (by decide) (op_max rfl rfl ?_)
        | refine rl_step (by decide) (op_extract rfl rfl ?_)
        | refine rl_step (by decide) (op_add rfl rfl (by omega) ?_)
        | refine rl_step (by decide) (op_sub rfl rfl (by omega) ?_)
        | refine rl_step (by decide) (op_neg rfl (by omega) ?_)))
    refine run_ret1 Try.func29 rfl rfl ?_
    exact ⟨⟨0, rfl, by omega, by omega⟩, rfl⟩
  (repeat (first
      | refine run_seq ?_
      | refine run_region_l ?_
      | refine rl_nil ?_
      | refine rl_step (by decide) (op_move rfl ?_)
      | refine rl_step (by decide) (op_assign rfl ?_)
      | refine run_block ?_
      | refine run_inBlock ?_
      | refine run_exit rfl ?_
      | refine run_skip ?_
      | refine run_label ?_
      | refine run_true rfl ?_
      | refine run_false rfl ?_
      | refine rl_yes rfl rfl ?_
      | refine rl_no rfl rfl rfl (by decide) ?_
      | refine rl_step (by decide) (op_pick_t rfl rfl ?_)
      | refine rl_step (by decide) (op_pick_f rfl rfl ?_)
      | refine rl_step (by decide) (op_lss rfl rfl ?_)
      | refine rl_step (by decide) (op_leq rfl rfl ?_)
      | refine rl_step (by decide) (op_gtr rfl rfl ?_)
      | refine rl_step (by decide) (op_geq rfl rfl ?_)
      | refine rl_step (by decide) (op_eql rfl rfl ?_)
      | refine rl_step (by decide) (op_neq rfl rfl ?_)
      | refine rl_step (by decide) (op_not rfl ?_)
      | refine rl_step (by decide) (op_min rfl rfl ?_)
      | refine rl_step (by decide) (op_max rfl rfl ?_)
      | refine rl_step (by decide) (op_extract rfl rfl ?_)
      | refine rl_step (by decide) (op_add rfl rfl (by omega) ?_)
      | refine rl_step (by decide) (op_sub rfl rfl (by omega) ?_)
      | refine rl_step (by decide) (op_neg rfl (by omega) ?_)))
  refine rl_step (by decide) (op_indexAddrB uI teI rfl rfl hs (by omega) ?_)
  intro ad _ he
  refine rl_step (by decide) (op_load teI rfl he ?_)
  intro u hu
  obtain ⟨rfl, hi⟩ := eI_V.1 hu
  (repeat (first
      | refine run_seq ?_
      | refine run_region_l ?_
      | refine rl_nil ?_
      | refine rl_step (by decide) (op_move rfl ?_)
      | refine rl_step (by decide) (op_assign rfl ?_)
      | refine run_block ?_
      | refine run_inBlock ?_
      | refine run_exit rfl ?_
      | refine run_skip ?_
      | refine run_label ?_
      | refine run_true rfl ?_
      | refine run_false rfl ?_
      | refine rl_yes rfl rfl ?_
      | refine rl_no rfl rfl rfl (by decide) ?_
      | refine rl_step (by decide) (op_pick_t rfl rfl ?_)
      | refine rl_step (by decide) (op_pick_f rfl rfl ?_)
      | refine rl_step (by decide) (op_lss rfl rfl ?_)
      | refine rl_step (by decide) (op_leq rfl rfl ?_)
      | refine rl_step (by decide) (op_gtr rfl rfl ?_)
      | refine rl_step (by decide) (op_geq rfl rfl ?_)
      | refine rl_step (by decide) (op_eql rfl rfl ?_)
      | refine rl_step (by decide) (op_neq rfl rfl ?_)
      | refine rl_step (by decide) (op_not rfl ?_)
      | refine rl_step (by decide) (op_min rfl rfl ?_)
      | refine rl_step (by decide) (op_max rfl rfl ?_)
      | refine rl_step (by decide) (op_extract rfl rfl ?_)
      | refine rl_step (by decide) (op_add rfl rfl (by omega) ?_)
      | refine rl_step (by decide) (op_sub rfl rfl (by omega) ?_)
      | refine rl_step (by decide) (op_neg rfl (by omega) ?_)))
  refine rl_step (by decide) (op_call ent23 rfl (around03 _ _ _ hi hm) ?_)
  rintro _ w' ⟨rfl, rfl⟩
  (repeat (first
      | refine run_seq ?_
      | refine run_region_l ?_
      | refine rl_nil ?_
      | refine rl_step (by decide) (op_move rfl ?_)
      | refine rl_step (by decide) (op_assign rfl ?_)
      | refine run_block ?_
      | refine run_inBlock ?_
      | refine run_exit rfl ?_
      | refine run_skip ?_
      | refine run_label ?_
      | refine run_true rfl ?_
      | refine run_false rfl ?_
      | refine rl_yes rfl rfl ?_
      | refine rl_no rfl rfl rfl (by decide) ?_
      | refine rl_step (by decide) (op_pick_t rfl rfl ?_)
      | refine rl_step (by decide) (op_pick_f rfl rfl ?_)
      | refine rl_step (by decide) (op_lss rfl rfl ?_)
      | refine rl_step (by decide) (op_leq rfl rfl ?_)
      | refine rl_step (by decide) (op_gtr rfl rfl ?_)
      | refine rl_step (by decide) (op_geq rfl rfl ?_)
      | refine rl_step (by decide) (op_eql rfl rfl ?_)
      | refine rl_step (by decide) (op_neq rfl rfl ?_)
      | refine rl_step (by decide) (op_not rfl ?_)
      | refine rl_step (by decide) (op_min rfl rfl ?_)
      | refine rl_step (by decide) (op_max rfl rfl ?_)
      | refine rl_step (by decide) (op_extract rfl rfl ?_)
      | refine rl_step (by decide) (op_add rfl rfl (by omega) ?_)
      | refine rl_step (by decide) (op_sub rfl rfl (by omega) ?_)
      | refine rl_step (by decide) (op_neg rfl (by omega) ?_)))
  refine run_ret1 Try.func29 rfl rfl ?_
  exact ⟨⟨_, rfl, aro_bd _ _ hm⟩, rfl⟩

/-- What is known of a body and notes made from numbers. -/
structure OKB (body : List Line) (notes : List (List Line)) : Prop where
  lb : body.length ≤ 60
  ln : notes.length ≤ 2 * body.length
  nn : ∀ x ∈ notes, x ≠ [] ∧ x.length ≤ 9
  rf : refs body = (List.range notes.length).map fun (i : Nat) => (i : Int)

structure LJ (M0 : Mut) (w0 : World) (v : Value) (l : List Int) (M : Mut) (w : World) (body : List Line) (notes : List (List Line)) (vb vn : Value) : Prop where
  rn : Rn M0 w0 M w
  sl : SlBg M w v l
  sb : SlOf eLine M w vb body
  gb : Grow w0.heap.size M w vb body.length 4 1 47
  sn : SlOf (eSl eLine) M w vn notes
  gn : Grow w0.heap.size M w vn notes.length 1 2 23

theorem LJ.up {M0 M M' : Mut} {w0 w w' : World} {v vb vn : Value} {l : List Int} {body : List Line} {notes : List (List Line)} (k : LJ M0 w0 v l M w body notes vb vn) (s : UpM M w M' w') : LJ M0 w0 v l M' w' body notes vb vn :=
  ⟨k.rn.up s, k.sl.mono s.x, k.sb.mono s.x, k.gb.up s, k.sn.mono s.x, k.gn.up s⟩
theorem LJ.st {M0 M M' : Mut} {w0 w w' : World} {v vb vn : Value} {l : List Int} {body : List Line} {notes : List (List Line)} {tag : Nat} (k : LJ M0 w0 v l M w body notes vb vn) (s : St w0.heap.size (some tag) M w M' w') (ht : tag ≠ 1 ∧ tag ≠ 2) : LJ M0 w0 v l M' w' body notes vb vn :=
  ⟨k.rn.st s, k.sl.mono s.x, k.sb.mono s.x, k.gb.st s (by simp; omega), k.sn.mono s.x, k.gn.st s (by simp; omega)⟩

/-- The line that is being made. -/
structure XJ (B : Nat) (M : Mut) (w : World) (bx : Nat) (n : Int) (vx : Value) (ns : List Int) : Prop where
  box : Box M w bx 3 [.int .i64 n, .int .i64 (n + 1), .slice none 0 0, vx] 47
  sx : SlOf eI M w vx ns
  gx : Grow B M w vx ns.length 1 4 3
theorem XJ.up {B : Nat} {M M' : Mut} {w w' : World} {bx : Nat} {n : Int} {vx : Value} {ns : List Int} (k : XJ B M w bx n vx ns) (s : UpM M w M' w') : XJ B M' w' bx n vx ns := ⟨k.box.up s, k.sx.mono s.x, k.gx.up s⟩
theorem XJ.st {B : Nat} {M M' : Mut} {w w' : World} {bx : Nat} {n : Int} {vx : Value} {ns : List Int} {tag : Nat} (k : XJ B M w bx n vx ns) (s : St B (some tag) M w M' w') (ht : tag ≠ 3 ∧ tag ≠ 4) : XJ B M' w' bx n vx ns :=
  ⟨k.box.st s (by simp; omega), k.sx.mono s.x, k.gx.st s (by simp; omega)⟩

structure OS where
  i : Nat
  body : List Line
  notes : List (List Line)
  vb : Value
  vn : Value
  M : Mut
structure KS where
  k : Nat
  ns : List Int
  notes : List (List Line)
  vx : Value
  vn : Value
  M : Mut
structure NS where
  note : List Line
  vo : Value
  M : Mut

set_option maxHeartbeats 1000000 in
theorem linesG (M : Mut) (v : Value) (l : List Int) (w : World) (hm : MB M w) (hs : SlBg M w v l) :
    CallsV Try.prog 17 [v] w (fun u w' => Below w.heap.size w w' ∧ ∃ vb vn body notes, u = .tuple #[vb, vn] ∧ SlOf eLine M w' vb body ∧ SlOf (eSl eLine) M w' vn notes ∧ OKB body notes) := by
  have hr := Rn.refl hm
  refine callsV_of_run Try.func17 rfl Try.ntmps17 (Nat.le_of_ble_eq_true rfl) ?_
  (repeat (first
      | refine run_seq ?_
      | refine run_region_l ?_
      | refine rl_nil ?_
      | refine rl_step (by decide) (op_move rfl ?_)
      | refine rl_step (by decide) (op_assign rfl ?_)
      | refine run_block ?_
      | refine run_inBlock ?_
      | refine run_exit rfl ?_
      | refine run_skip ?_
      | refine run_label ?_
      | refine run_true rfl ?_
      | refine run_false rfl ?_
      | refine rl_yes rfl rfl ?_
      | refine rl_no rfl rfl rfl (by decide) ?_
      | refine rl_step (by decide) (op_pick_t rfl rfl ?_)
      | refine rl_step (by decide) (op_pick_f rfl rfl ?_)
      | refine rl_step (by decide) (op_lss rfl rfl ?_)
      | refine rl_step (by decide) (op_leq rfl rfl ?_)
      | refine rl_step (by decide) (op_gtr rfl rfl ?_)
      | refine rl_step (by decide) (op_geq rfl rfl ?_)
      | refine rl_step (by decide) (op_eql rfl rfl ?_)
      | refine rl_step (by decide) (op_neq rfl rfl ?_)
      | refine rl_step (by decide) (op_not rfl ?_)
      | refine rl_step (by decide) (op_min rfl rfl ?_)
      | refine rl_step (by decide) (op_max rfl rfl ?_)
      | refine rl_step (by decide) (op_extract rfl rfl ?_)
      | refine rl_step (by decide) (op_add rfl rfl (by omega) ?_)
      | refine rl_step (by decide) (op_sub rfl rfl (by omega) ?_)
      | refine rl_step (by decide) (op_neg rfl (by omega) ?_)))
  refine (run_loop (α := OS) (fun x => [(0, v), (4, x.vb), (5, x.vn), (6, .int .i64 x.body.length), (7, .int .i64 x.i)])
    (fun x w' => LJ M w v l x.M w' x.body x.notes x.vb x.vn ∧ OKB x.body x.notes ∧ x.i = 3 * x.body.length) (fun x => 60 - x.body.length) ⟨0, [], [], .slice none 0 0, .slice none 0 0, M⟩
    ⟨⟨hr, hs, SlOf.nil _ _ _, Grow.nil, SlOf.nil _ _ _, Grow.nil⟩, ⟨by simp, by simp, by simp, rfl⟩, by simp⟩ ?_).sub (by repeat (first | exact trivial | refine ⟨rfl, ?_⟩))
  clear hr hs
  rintro ⟨i, body, notes, vb, vn, M1⟩ w1 ⟨hJ, hO, hi⟩ ih
  simp only at hJ hO hi ih
  try dsimp only
  (repeat (first
      | refine run_seq ?_
      | refine run_region_l ?_
      | refine rl_nil ?_
      | refine rl_step (by decide) (op_move rfl ?_)
      | refine rl_step (by decide) (op_assign rfl ?_)
      | refine run_block ?_
      | refine run_inBlock ?_
      | refine run_exit rfl ?_
      | refine run_skip ?_
      | refine run_label ?_
      | refine run_true rfl ?_
      | refine run_false rfl ?_
      | refine rl_yes rfl rfl ?_
      | refine rl_no rfl rfl rfl (by decide) ?_
      | refine rl_step (by decide) (op_pick_t rfl rfl ?_)
      | refine rl_step (by decide) (op_pick_f rfl rfl ?_)
      | refine rl_step (by decide) (op_lss rfl rfl ?_)
      | refine rl_step (by decide) (op_leq rfl rfl ?_)
      | refine rl_step (by decide) (op_gtr rfl rfl ?_)
      | refine rl_step (by decide) (op_geq rfl rfl ?_)
      | refine rl_step (by decide) (op_eql rfl rfl ?_)
      | refine rl_step (by decide) (op_neq rfl rfl ?_)
      | refine rl_step (by decide) (op_not rfl ?_)
      | refine rl_step (by decide) (op_min rfl rfl ?_)
      | refine rl_step (by decide) (op_max rfl rfl ?_)
      | refine rl_step (by decide) (op_extract rfl rfl ?_)
      | refine rl_step (by decide) (op_add rfl rfl (by omega) ?_)
      | refine rl_step (by decide) (op_sub rfl rfl (by omega) ?_)
      | refine rl_step (by decide) (op_neg rfl (by omega) ?_)))
  refine rl_step (by decide) (op_lenB uI rfl hJ.sl ?_)
  (repeat (first
      | refine run_seq ?_
      | refine run_region_l ?_
      | refine rl_nil ?_
      | refine rl_step (by decide) (op_move rfl ?_)
      | refine rl_step (by decide) (op_assign rfl ?_)
      | refine run_block ?_
      | refine run_inBlock ?_
      | refine run_exit rfl ?_
      | refine run_skip ?_
      | refine run_label ?_
      | refine run_true rfl ?_
      | refine run_false rfl ?_
      | refine rl_yes rfl rfl ?_
      | refine rl_no rfl rfl rfl (by decide) ?_
      | refine rl_step (by decide) (op_pick_t rfl rfl ?_)
      | refine rl_step (by decide) (op_pick_f rfl rfl ?_)
      | refine rl_step (by decide) (op_lss rfl rfl ?_)
      | refine rl_step (by decide) (op_leq rfl rfl ?_)
      | refine rl_step (by decide) (op_gtr rfl rfl ?_)
      | refine rl_step (by decide) (op_geq rfl rfl ?_)
      | refine rl_step (by decide) (op_eql rfl rfl ?_)
      | refine rl_step (by decide) (op_neq rfl rfl ?_)
      | refine rl_step (by decide) (op_not rfl ?_)
      | refine rl_step (by decide) (op_min rfl rfl ?_)
      | refine rl_step (by decide) (op_max rfl rfl ?_)
      | refine rl_step (by decide) (op_extract rfl rfl ?_)
      | refine rl_step (by decide) (op_add rfl rfl (by omega) ?_)
      | refine rl_step (by decide) (op_sub rfl rfl (by omega) ?_)
      | refine rl_step (by decide) (op_neg rfl (by omega) ?_)))
  refine rl_part 16 rfl (fun h0 => ?_) (fun h0 => ?_)
  rotate_left 1
  · (repeat (first
        | refine run_seq ?_
        | refine run_region_l ?_
        | refine rl_nil ?_
        | refine rl_step (by decide) (op_move rfl ?_)
        | refine rl_step (by decide) (op_assign rfl ?_)
        | refine run_block ?_
        | refine run_inBlock ?_
        | refine run_exit rfl ?_
        | refine run_skip ?_
        | refine run_label ?_
        | refine run_true rfl ?_
        | refine run_false rfl ?_
        | refine rl_yes rfl rfl ?_
        | refine rl_no rfl rfl rfl (by decide) ?_
        | refine rl_step (by decide) (op_pick_t rfl rfl ?_)
        | refine rl_step (by decide) (op_pick_f rfl rfl ?_)
        | refine rl_step (by decide) (op_lss rfl rfl ?_)
        | refine rl_step (by decide) (op_leq rfl rfl ?_)
        | refine rl_step (by decide) (op_gtr rfl rfl ?_)
        | refine rl_step (by decide) (op_geq rfl rfl ?_)
        | refine rl_step (by decide) (op_eql rfl rfl ?_)
        | refine rl_step (by decide) (op_neq rfl rfl ?_)
        | refine rl_step (by decide) (op_not rfl ?_)
        | refine rl_step (by decide) (op_min rfl rfl ?_)
        | refine rl_step (by decide) (op_max rfl rfl ?_)
        | refine rl_step (by decide) (op_extract rfl rfl ?_)
        | refine rl_step (by decide) (op_add rfl rfl (by omega) ?_)
        | refine rl_step (by decide) (op_sub rfl rfl (by omega) ?_)
        | refine rl_step (by decide) (op_neg rfl (by omega) ?_)))
    refine run_ret2 Try.func17 rfl rfl rfl ?_
    exact ⟨hJ.rn.bel, vb, vn, body, notes, rfl, hJ.sb.mono hJ.rn.fin, hJ.sn.mono hJ.rn.fin, hO⟩
  (repeat (first
      | refine run_seq ?_
      | refine run_region_l ?_
      | refine rl_nil ?_
      | refine rl_step (by decide) (op_move rfl ?_)
      | refine rl_step (by decide) (op_assign rfl ?_)
      | refine run_block ?_
      | refine run_inBlock ?_
      | refine run_exit rfl ?_
      | refine run_skip ?_
      | refine run_label ?_
      | refine run_true rfl ?_
      | refine run_false rfl ?_
      | refine rl_yes rfl rfl ?_
      | refine rl_no rfl rfl rfl (by decide) ?_
      | refine rl_step (by decide) (op_pick_t rfl rfl ?_)
      | refine rl_step (by decide) (op_pick_f rfl rfl ?_)
      | refine rl_step (by decide) (op_lss rfl rfl ?_)
      | refine rl_step (by decide) (op_leq rfl rfl ?_)
      | refine rl_step (by decide) (op_gtr rfl rfl ?_)
      | refine rl_step (by decide) (op_geq rfl rfl ?_)
      | refine rl_step (by decide) (op_eql rfl rfl ?_)
      | refine rl_step (by decide) (op_neq rfl rfl ?_)
      | refine rl_step (by decide) (op_not rfl ?_)
      | refine rl_step (by decide) (op_min rfl rfl ?_)
      | refine rl_step (by decide) (op_max rfl rfl ?_)
      | refine rl_step (by decide) (op_extract rfl rfl ?_)
      | refine rl_step (by decide) (op_add rfl rfl (by omega) ?_)
      | refine rl_step (by decide) (op_sub rfl rfl (by omega) ?_)
      | refine rl_step (by decide) (op_neg rfl (by omega) ?_)))
  refine rl_step (by decide) (op_len uL rfl hJ.sb ?_)
  (repeat (first
      | refine run_seq ?_
      | refine run_region_l ?_
      | refine rl_nil ?_
      | refine rl_step (by decide) (op_move rfl ?_)
      | refine rl_step (by decide) (op_assign rfl ?_)
      | refine run_block ?_
      | refine run_inBlock ?_
      | refine run_exit rfl ?_
      | refine run_skip ?_
      | refine run_label ?_
      | refine run_true rfl ?_
      | refine run_false rfl ?_
      | refine rl_yes rfl rfl ?_
      | refine rl_no rfl rfl rfl (by decide) ?_
      | refine rl_step (by decide) (op_pick_t rfl rfl ?_)
      | refine rl_step (by decide) (op_pick_f rfl rfl ?_)
      | refine rl_step (by decide) (op_lss rfl rfl ?_)
      | refine rl_step (by decide) (op_leq rfl rfl ?_)
      | refine rl_step (by decide) (op_gtr rfl rfl ?_)
      | refine rl_step (by decide) (op_geq rfl rfl ?_)
      | refine rl_step (by decide) (op_eql rfl rfl ?_)
      | refine rl_step (by decide) (op_neq rfl rfl ?_)
      | refine rl_step (by decide) (op_not rfl ?_)
      | refine rl_step (by decide) (op_min rfl rfl ?_)
      | refine rl_step (by decide) (op_max rfl rfl ?_)
      | refine rl_step (by decide) (op_extract rfl rfl ?_)
      | refine rl_step (by decide) (op_add rfl rfl (by omega) ?_)
      | refine rl_step (by decide) (op_sub rfl rfl (by omega) ?_)
      | refine rl_step (by decide) (op_neg rfl (by omega) ?_)))
  refine run_if rfl (fun h1 => ?_) (fun h1 => ?_)
  rotate_left 1
  · (repeat (first
        | refine run_seq ?_
        | refine run_region_l ?_
        | refine rl_nil ?_
        | refine rl_step (by decide) (op_move rfl ?_)
        | refine rl_step (by decide) (op_assign rfl ?_)
        | refine run_block ?_
        | refine run_inBlock ?_
        | refine run_exit rfl ?_
        | refine run_skip ?_
        | refine run_label ?_
        | refine run_true rfl ?_
        | refine run_false rfl ?_
        | refine rl_yes rfl rfl ?_
        | refine rl_no rfl rfl rfl (by decide) ?_
        | refine rl_step (by decide) (op_pick_t rfl rfl ?_)
        | refine rl_step (by decide) (op_pick_f rfl rfl ?_)
        | refine rl_step (by decide) (op_lss rfl rfl ?_)
        | refine rl_step (by decide) (op_leq rfl rfl ?_)
        | refine rl_step (by decide) (op_gtr rfl rfl ?_)
        | refine rl_step (by decide) (op_geq rfl rfl ?_)
        | refine rl_step (by decide) (op_eql rfl rfl ?_)
        | refine rl_step (by decide) (op_neq rfl rfl ?_)
        | refine rl_step (by decide) (op_not rfl ?_)
        | refine rl_step (by decide) (op_min rfl rfl ?_)
        | refine rl_step (by decide) (op_max rfl rfl ?_)
        | refine rl_step (by decide) (op_extract rfl rfl ?_)
        | refine rl_step (by decide) (op_add rfl rfl (by omega) ?_)
        | refine rl_step (by decide) (op_sub rfl rfl (by omega) ?_)
        | refine rl_step (by decide) (op_neg rfl (by omega) ?_)))
    refine run_ret2 Try.func17 rfl rfl rfl ?_
    exact ⟨hJ.rn.bel, vb, vn, body, notes, rfl, hJ.sb.mono hJ.rn.fin, hJ.sn.mono hJ.rn.fin, hO⟩
  have hlb : body.length < 60 := by omega
  (repeat (first
      | refine run_seq ?_
      | refine run_region_l ?_
      | refine rl_nil ?_
      | refine rl_step (by decide) (op_move rfl ?_)
      | refine rl_step (by decide) (op_assign rfl ?_)
      | refine run_block ?_
      | refine run_inBlock ?_
      | refine run_exit rfl ?_
      | refine run_skip ?_
      | refine run_label ?_
      | refine run_true rfl ?_
      | refine run_false rfl ?_
      | refine rl_yes rfl rfl ?_
      | refine rl_no rfl rfl rfl (by decide) ?_
      | refine rl_step (by decide) (op_pick_t rfl rfl ?_)
      | refine rl_step (by decide) (op_pick_f rfl rfl ?_)
      | refine rl_step (by decide) (op_lss rfl rfl ?_)
      | refine rl_step (by decide) (op_leq rfl rfl ?_)
      | refine rl_step (by decide) (op_gtr rfl rfl ?_)
      | refine rl_step (by decide) (op_geq rfl rfl ?_)
      | refine rl_step (by decide) (op_eql rfl rfl ?_)
      | refine rl_step (by decide) (op_neq rfl rfl ?_)
      | refine rl_step (by decide) (op_not rfl ?_)
      | refine rl_step (by decide) (op_min rfl rfl ?_)
      | refine rl_step (by decide) (op_max rfl rfl ?_)
      | refine rl_step (by decide) (op_extract rfl rfl ?_)
      | refine rl_step (by decide) (op_add rfl rfl (by omega) ?_)
      | refine rl_step (by decide) (op_sub rfl rfl (by omega) ?_)
      | refine rl_step (by decide) (op_neg rfl (by omega) ?_)))
  refine rl_step (by decide) (op_build (parts := [(0, .tmp 23), (1, .tmp 25)]) (vs := [.int .i64 body.length, .int .i64 (body.length + 1)]) (pl := [(0, [.int .i64 body.length]), (1, [.int .i64 (body.length + 1)])]) sbL rfl
    ⟨rfl, rfl, Nat.le_of_ble_eq_true rfl, rfl, rfl, Nat.le_of_ble_eq_true rfl, trivial⟩ ?_)
  refine rl_step (by decide) (op_alloc 3 hJ.rn tdL ?_)
  intro bx w2 M2 hB hbox hs1
  replace hJ := hJ.up hs1
  refine rl_step0 (op_store (c := [.int .i64 body.length, .int .i64 (body.length + 1), .slice none 0 0, .slice none 0 0]) tdL rfl rfl rfl (by simp [Value.oneCell']) rfl hJ.rn hB hbox (Nat.le_of_ble_eq_true rfl) ?_)
  intro w3 hbox hst
  replace hJ := hJ.st hst (by decide)
  replace hbox : Box M2 w3 bx 3 [.int .i64 body.length, .int .i64 (body.length + 1), .slice none 0 0, .slice none 0 0] 47 := hbox
  clear hst hs1
  (repeat (first
      | refine run_seq ?_
      | refine run_region_l ?_
      | refine rl_nil ?_
      | refine rl_step (by decide) (op_move rfl ?_)
      | refine rl_step (by decide) (op_assign rfl ?_)
      | refine run_block ?_
      | refine run_inBlock ?_
      | refine run_exit rfl ?_
      | refine run_skip ?_
      | refine run_label ?_
      | refine run_true rfl ?_
      | refine run_false rfl ?_
      | refine rl_yes rfl rfl ?_
      | refine rl_no rfl rfl rfl (by decide) ?_
      | refine rl_step (by decide) (op_pick_t rfl rfl ?_)
      | refine rl_step (by decide) (op_pick_f rfl rfl ?_)
      | refine rl_step (by decide) (op_lss rfl rfl ?_)
      | refine rl_step (by decide) (op_leq rfl rfl ?_)
      | refine rl_step (by decide) (op_gtr rfl rfl ?_)
      | refine rl_step (by decide) (op_geq rfl rfl ?_)
      | refine rl_step (by decide) (op_eql rfl rfl ?_)
      | refine rl_step (by decide) (op_neq rfl rfl ?_)
      | refine rl_step (by decide) (op_not rfl ?_)
      | refine rl_step (by decide) (op_min rfl rfl ?_)
      | refine rl_step (by decide) (op_max rfl rfl ?_)
      | refine rl_step (by decide) (op_extract rfl rfl ?_)
      | refine rl_step (by decide) (op_add rfl rfl (by omega) ?_)
      | refine rl_step (by decide) (op_sub rfl rfl (by omega) ?_)
      | refine rl_step (by decide) (op_neg rfl (by omega) ?_)))
  have hX : XJ w.heap.size M2 w3 bx body.length (.slice none 0 0) [] := ⟨hbox, SlOf.nil _ _ _, Grow.nil⟩
  clear hbox
  refine (run_loop (α := KS) (fun x => [(0, v), (4, vb), (5, x.vn), (6, .int .i64 (body.length + 1)), (7, .int .i64 i), (8, .pointer (some ⟨bx, 0, none⟩)), (9, .int .i64 x.k)])
    (fun x w' => LJ M w v l x.M w' body x.notes vb x.vn ∧ XJ w.heap.size x.M w' bx body.length x.vx x.ns ∧ 1 ≤ x.k ∧ x.k ≤ 3 ∧ x.notes.length + 1 = notes.length + x.k ∧ (∀ y ∈ x.notes, y ≠ [] ∧ y.length ≤ 9) ∧
      refs body ++ x.ns = (List.range x.notes.length).map fun (i : Nat) => (i : Int)) (fun x => 3 - x.k) ⟨1, [], notes, .slice none 0 0, vn, M2⟩
    ⟨hJ, hX, by simp, by simp, by simp, hO.nn, by simpa using hO.rf⟩ ?_).sub (by repeat (first | exact trivial | refine ⟨rfl, ?_⟩))
  clear hJ hX
  rintro ⟨k, ns, nts, vx, vn, M3⟩ w4 ⟨hJ, hX, hk1, hk3, hkl, hnn, hrf⟩ ih2
  simp only at hJ hX hk1 hk3 hkl hnn hrf ih2
  try dsimp only
  have hlb2 := hO.lb
  have hln := hO.ln
  (repeat (first
      | refine run_seq ?_
      | refine run_region_l ?_
      | refine rl_nil ?_
      | refine rl_step (by decide) (op_move rfl ?_)
      | refine rl_step (by decide) (op_assign rfl ?_)
      | refine run_block ?_
      | refine run_inBlock ?_
      | refine run_exit rfl ?_
      | refine run_skip ?_
      | refine run_label ?_
      | refine run_true rfl ?_
      | refine run_false rfl ?_
      | refine rl_yes rfl rfl ?_
      | refine rl_no rfl rfl rfl (by decide) ?_
      | refine rl_step (by decide) (op_pick_t rfl rfl ?_)
      | refine rl_step (by decide) (op_pick_f rfl rfl ?_)
      | refine rl_step (by decide) (op_lss rfl rfl ?_)
      | refine rl_step (by decide) (op_leq rfl rfl ?_)
      | refine rl_step (by decide) (op_gtr rfl rfl ?_)
      | refine rl_step (by decide) (op_geq rfl rfl ?_)
      | refine rl_step (by decide) (op_eql rfl rfl ?_)
      | refine rl_step (by decide) (op_neq rfl rfl ?_)
      | refine rl_step (by decide) (op_not rfl ?_)
      | refine rl_step (by decide) (op_min rfl rfl ?_)
      | refine rl_step (by decide) (op_max rfl rfl ?_)
      | refine rl_step (by decide) (op_extract rfl rfl ?_)
      | refine rl_step (by decide) (op_add rfl rfl (by omega) ?_)
      | refine rl_step (by decide) (op_sub rfl rfl (by omega) ?_)
      | refine rl_step (by decide) (op_neg rfl (by omega) ?_)))
  refine rl_step (by decide) (op_call ent29 rfl (pick03 M3 v l i 6 w4 hJ.sl (by omega)) ?_)
  rintro _ w5 ⟨⟨r, rfl, hr1, hr2⟩, rfl⟩
  (repeat (first
      | refine run_seq ?_
      | refine run_region_l ?_
      | refine rl_nil ?_
      | refine rl_step (by decide) (op_move rfl ?_)
      | refine rl_step (by decide) (op_assign rfl ?_)
      | refine run_block ?_
      | refine run_inBlock ?_
      | refine run_exit rfl ?_
      | refine run_skip ?_
      | refine run_label ?_
      | refine run_true rfl ?_
      | refine run_false rfl ?_
      | refine rl_yes rfl rfl ?_
      | refine rl_no rfl rfl rfl (by decide) ?_
      | refine rl_step (by decide) (op_pick_t rfl rfl ?_)
      | refine rl_step (by decide) (op_pick_f rfl rfl ?_)
      | refine rl_step (by decide) (op_lss rfl rfl ?_)
      | refine rl_step (by decide) (op_leq rfl rfl ?_)
      | refine rl_step (by decide) (op_gtr rfl rfl ?_)
      | refine rl_step (by decide) (op_geq rfl rfl ?_)
      | refine rl_step (by decide) (op_eql rfl rfl ?_)
      | refine rl_step (by decide) (op_neq rfl rfl ?_)
      | refine rl_step (by decide) (op_not rfl ?_)
      | refine rl_step (by decide) (op_min rfl rfl ?_)
      | refine rl_step (by decide) (op_max rfl rfl ?_)
      | refine rl_step (by decide) (op_extract rfl rfl ?_)
      | refine rl_step (by decide) (op_add rfl rfl (by omega) ?_)
      | refine rl_step (by decide) (op_sub rfl rfl (by omega) ?_)
      | refine rl_step (by decide) (op_neg rfl (by omega) ?_)))
  refine run_if rfl (fun h2 => ?_) (fun h2 => ?_)
  · have hk2 : k ≤ 2 := by omega
    (repeat (first
        | refine run_seq ?_
        | refine run_region_l ?_
        | refine rl_nil ?_
        | refine rl_step (by decide) (op_move rfl ?_)
        | refine rl_step (by decide) (op_assign rfl ?_)
        | refine run_block ?_
        | refine run_inBlock ?_
        | refine run_exit rfl ?_
        | refine run_skip ?_
        | refine run_label ?_
        | refine run_true rfl ?_
        | refine run_false rfl ?_
        | refine rl_yes rfl rfl ?_
        | refine rl_no rfl rfl rfl (by decide) ?_
        | refine rl_step (by decide) (op_pick_t rfl rfl ?_)
        | refine rl_step (by decide) (op_pick_f rfl rfl ?_)
        | refine rl_step (by decide) (op_lss rfl rfl ?_)
        | refine rl_step (by decide) (op_leq rfl rfl ?_)
        | refine rl_step (by decide) (op_gtr rfl rfl ?_)
        | refine rl_step (by decide) (op_geq rfl rfl ?_)
        | refine rl_step (by decide) (op_eql rfl rfl ?_)
        | refine rl_step (by decide) (op_neq rfl rfl ?_)
        | refine rl_step (by decide) (op_not rfl ?_)
        | refine rl_step (by decide) (op_min rfl rfl ?_)
        | refine rl_step (by decide) (op_max rfl rfl ?_)
        | refine rl_step (by decide) (op_extract rfl rfl ?_)
        | refine rl_step (by decide) (op_add rfl rfl (by omega) ?_)
        | refine rl_step (by decide) (op_sub rfl rfl (by omega) ?_)
        | refine rl_step (by decide) (op_neg rfl (by omega) ?_)))
    refine rl_step (by decide) (op_fieldBox fdL3 rfl ?_)
    refine rl_step (by decide) (op_load1 tdSI rfl hX.box rfl ?_)
    (repeat (first
        | refine run_seq ?_
        | refine run_region_l ?_
        | refine rl_nil ?_
        | refine rl_step (by decide) (op_move rfl ?_)
        | refine rl_step (by decide) (op_assign rfl ?_)
        | refine run_block ?_
        | refine run_inBlock ?_
        | refine run_exit rfl ?_
        | refine run_skip ?_
        | refine run_label ?_
        | refine run_true rfl ?_
        | refine run_false rfl ?_
        | refine rl_yes rfl rfl ?_
        | refine rl_no rfl rfl rfl (by decide) ?_
        | refine rl_step (by decide) (op_pick_t rfl rfl ?_)
        | refine rl_step (by decide) (op_pick_f rfl rfl ?_)
        | refine rl_step (by decide) (op_lss rfl rfl ?_)
        | refine rl_step (by decide) (op_leq rfl rfl ?_)
        | refine rl_step (by decide) (op_gtr rfl rfl ?_)
        | refine rl_step (by decide) (op_geq rfl rfl ?_)
        | refine rl_step (by decide) (op_eql rfl rfl ?_)
        | refine rl_step (by decide) (op_neq rfl rfl ?_)
        | refine rl_step (by decide) (op_not rfl ?_)
        | refine rl_step (by decide) (op_min rfl rfl ?_)
        | refine rl_step (by decide) (op_max rfl rfl ?_)
        | refine rl_step (by decide) (op_extract rfl rfl ?_)
        | refine rl_step (by decide) (op_add rfl rfl (by omega) ?_)
        | refine rl_step (by decide) (op_sub rfl rfl (by omega) ?_)
        | refine rl_step (by decide) (op_neg rfl (by omega) ?_)))
    refine rl_step (by decide) (op_len uLL rfl hJ.sn ?_)
    refine rl_step (by decide) (op_buildSlice (E := eI) (n := 1) (parts := [(0, .tmp 41)]) (vs := [.int .i64 nts.length]) (l := [(nts.length : Int)]) uI teI hJ.rn rfl rfl ⟨eI_V.2 ⟨rfl, by unfold I64; omega⟩, trivial⟩ rfl ⟨Nat.le_of_ble_eq_true rfl, Nat.le_of_ble_eq_true rfl⟩ ?_)
    intro u w6 hu _ hbel
    have hs1 : UpM M3 w5 M3 w6 := UpM.of_below hbel
    replace hJ := hJ.up hs1
    replace hX := hX.up hs1
    have hnl : ns.length ≤ 1000 := by
      have := congrArg List.length hrf
      simp at this
      omega
    refine rl_step (by decide) (op_append (E := eI) (tag := 4) uI teI rfl rfl hJ.rn hX.sx hX.gx hu (by show (ns.length + 1) * 8 ≤ _; omega) ?_)
    intro vx' w7 M4 hsx hgx hst
    replace hJ := hJ.st hst (by decide)
    have hbox := hX.box.st hst (by decide)
    clear hst hu hbel hs1 hX
    refine rl_step (by decide) (op_fieldBox fdL3 rfl ?_)
    obtain ⟨ax, cx, qx, _⟩ := SlOf.ex hsx
    refine rl_step0 (op_store (c := [vx']) tdSI rfl rfl (by rw [qx]; rfl) (by rw [qx]; simp [Value.oneCell']) rfl hJ.rn hB hbox (Nat.le_of_ble_eq_true rfl) ?_)
    intro w8 hbox hst
    replace hJ := hJ.st hst (by decide)
    have hX : XJ w.heap.size M4 w8 bx body.length vx' (ns ++ [(nts.length : Int)]) := ⟨hbox, hsx.mono hst.x, hgx.st hst (by decide)⟩
    clear hst hbox hsx hgx
    (repeat (first
        | refine run_seq ?_
        | refine run_region_l ?_
        | refine rl_nil ?_
        | refine rl_step (by decide) (op_move rfl ?_)
        | refine rl_step (by decide) (op_assign rfl ?_)
        | refine run_block ?_
        | refine run_inBlock ?_
        | refine run_exit rfl ?_
        | refine run_skip ?_
        | refine run_label ?_
        | refine run_true rfl ?_
        | refine run_false rfl ?_
        | refine rl_yes rfl rfl ?_
        | refine rl_no rfl rfl rfl (by decide) ?_
        | refine rl_step (by decide) (op_pick_t rfl rfl ?_)
        | refine rl_step (by decide) (op_pick_f rfl rfl ?_)
        | refine rl_step (by decide) (op_lss rfl rfl ?_)
        | refine rl_step (by decide) (op_leq rfl rfl ?_)
        | refine rl_step (by decide) (op_gtr rfl rfl ?_)
        | refine rl_step (by decide) (op_geq rfl rfl ?_)
        | refine rl_step (by decide) (op_eql rfl rfl ?_)
        | refine rl_step (by decide) (op_neq rfl rfl ?_)
        | refine rl_step (by decide) (op_not rfl ?_)
        | refine rl_step (by decide) (op_min rfl rfl ?_)
        | refine rl_step (by decide) (op_max rfl rfl ?_)
        | refine rl_step (by decide) (op_extract rfl rfl ?_)
        | refine rl_step (by decide) (op_add rfl rfl (by omega) ?_)
        | refine rl_step (by decide) (op_sub rfl rfl (by omega) ?_)
        | refine rl_step (by decide) (op_neg rfl (by omega) ?_)))
    refine (run_loop (α := NS) (fun x => [(0, v), (4, vb), (5, vn), (6, .int .i64 (body.length + 1)), (7, .int .i64 i), (8, .pointer (some ⟨bx, 0, none⟩)), (9, .int .i64 k), (10, x.vo), (11, .int .i64 x.note.length)])
      (fun x w' => LJ M w v l x.M w' body nts vb vn ∧ XJ w.heap.size x.M w' bx body.length vx' (ns ++ [(nts.length : Int)]) ∧ SlOf eLine x.M w' x.vo x.note ∧ Grow w.heap.size x.M w' x.vo x.note.length 4 5 47 ∧ x.note.length ≤ 9)
      (fun x => 9 - x.note.length) ⟨[], .slice none 0 0, M4⟩ ⟨hJ, hX, SlOf.nil _ _ _, Grow.nil, by simp⟩ ?_).sub (by repeat (first | exact trivial | refine ⟨rfl, ?_⟩))
    clear hJ hX
    rintro ⟨note, vo, M5⟩ w9 ⟨hJ, hX, ho, hgo, hno⟩ ih3
    simp only at hJ hX ho hgo hno ih3
    try dsimp only
    (repeat (first
        | refine run_seq ?_
        | refine run_region_l ?_
        | refine rl_nil ?_
        | refine rl_step (by decide) (op_move rfl ?_)
        | refine rl_step (by decide) (op_assign rfl ?_)
        | refine run_block ?_
        | refine run_inBlock ?_
        | refine run_exit rfl ?_
        | refine run_skip ?_
        | refine run_label ?_
        | refine run_true rfl ?_
        | refine run_false rfl ?_
        | refine rl_yes rfl rfl ?_
        | refine rl_no rfl rfl rfl (by decide) ?_
        | refine rl_step (by decide) (op_pick_t rfl rfl ?_)
        | refine rl_step (by decide) (op_pick_f rfl rfl ?_)
        | refine rl_step (by decide) (op_lss rfl rfl ?_)
        | refine rl_step (by decide) (op_leq rfl rfl ?_)
        | refine rl_step (by decide) (op_gtr rfl rfl ?_)
        | refine rl_step (by decide) (op_geq rfl rfl ?_)
        | refine rl_step (by decide) (op_eql rfl rfl ?_)
        | refine rl_step (by decide) (op_neq rfl rfl ?_)
        | refine rl_step (by decide) (op_not rfl ?_)
        | refine rl_step (by decide) (op_min rfl rfl ?_)
        | refine rl_step (by decide) (op_max rfl rfl ?_)
        | refine rl_step (by decide) (op_extract rfl rfl ?_)
        | refine rl_step (by decide) (op_add rfl rfl (by omega) ?_)
        | refine rl_step (by decide) (op_sub rfl rfl (by omega) ?_)
        | refine rl_step (by decide) (op_neg rfl (by omega) ?_)))
    refine rl_step (by decide) (op_call ent29 rfl (pick03 M5 v l (i + k) 9 w9 hJ.sl (by omega)) ?_)
    rintro _ w10 ⟨⟨r2, rfl, hr3, hr4⟩, rfl⟩
    (repeat (first
        | refine run_seq ?_
        | refine run_region_l ?_
        | refine rl_nil ?_
        | refine rl_step (by decide) (op_move rfl ?_)
        | refine rl_step (by decide) (op_assign rfl ?_)
        | refine run_block ?_
        | refine run_inBlock ?_
        | refine run_exit rfl ?_
        | refine run_skip ?_
        | refine run_label ?_
        | refine run_true rfl ?_
        | refine run_false rfl ?_
        | refine rl_yes rfl rfl ?_
        | refine rl_no rfl rfl rfl (by decide) ?_
        | refine rl_step (by decide) (op_pick_t rfl rfl ?_)
        | refine rl_step (by decide) (op_pick_f rfl rfl ?_)
        | refine rl_step (by decide) (op_lss rfl rfl ?_)
        | refine rl_step (by decide) (op_leq rfl rfl ?_)
        | refine rl_step (by decide) (op_gtr rfl rfl ?_)
        | refine rl_step (by decide) (op_geq rfl rfl ?_)
        | refine rl_step (by decide) (op_eql rfl rfl ?_)
        | refine rl_step (by decide) (op_neq rfl rfl ?_)
        | refine rl_step (by decide) (op_not rfl ?_)
        | refine rl_step (by decide) (op_min rfl rfl ?_)
        | refine rl_step (by decide) (op_max rfl rfl ?_)
        | refine rl_step (by decide) (op_extract rfl rfl ?_)
        | refine rl_step (by decide) (op_add rfl rfl (by omega) ?_)
        | refine rl_step (by decide) (op_sub rfl rfl (by omega) ?_)
        | refine rl_step (by decide) (op_neg rfl (by omega) ?_)))
    refine run_if rfl (fun h3 => ?_) (fun h3 => ?_)
    · (repeat (first
          | refine run_seq ?_
          | refine run_region_l ?_
          | refine rl_nil ?_
          | refine rl_step (by decide) (op_move rfl ?_)
          | refine rl_step (by decide) (op_assign rfl ?_)
          | refine run_block ?_
          | refine run_inBlock ?_
          | refine run_exit rfl ?_
          | refine run_skip ?_
          | refine run_label ?_
          | refine run_true rfl ?_
          | refine run_false rfl ?_
          | refine rl_yes rfl rfl ?_
          | refine rl_no rfl rfl rfl (by decide) ?_
          | refine rl_step (by decide) (op_pick_t rfl rfl ?_)
          | refine rl_step (by decide) (op_pick_f rfl rfl ?_)
          | refine rl_step (by decide) (op_lss rfl rfl ?_)
          | refine rl_step (by decide) (op_leq rfl rfl ?_)
          | refine rl_step (by decide) (op_gtr rfl rfl ?_)
          | refine rl_step (by decide) (op_geq rfl rfl ?_)
          | refine rl_step (by decide) (op_eql rfl rfl ?_)
          | refine rl_step (by decide) (op_neq rfl rfl ?_)
          | refine rl_step (by decide) (op_not rfl ?_)
          | refine rl_step (by decide) (op_min rfl rfl ?_)
          | refine rl_step (by decide) (op_max rfl rfl ?_)
          | refine rl_step (by decide) (op_extract rfl rfl ?_)
          | refine rl_step (by decide) (op_add rfl rfl (by omega) ?_)
          | refine rl_step (by decide) (op_sub rfl rfl (by omega) ?_)
          | refine rl_step (by decide) (op_neg rfl (by omega) ?_)))
      refine rl_step (by decide) (op_len uLL rfl hJ.sn ?_)
      refine rl_step (by decide) (op_mul rfl rfl (by omega) ?_)
      (repeat (first
          | refine run_seq ?_
          | refine run_region_l ?_
          | refine rl_nil ?_
          | refine rl_step (by decide) (op_move rfl ?_)
          | refine rl_step (by decide) (op_assign rfl ?_)
          | refine run_block ?_
          | refine run_inBlock ?_
          | refine run_exit rfl ?_
          | refine run_skip ?_
          | refine run_label ?_
          | refine run_true rfl ?_
          | refine run_false rfl ?_
          | refine rl_yes rfl rfl ?_
          | refine rl_no rfl rfl rfl (by decide) ?_
          | refine rl_step (by decide) (op_pick_t rfl rfl ?_)
          | refine rl_step (by decide) (op_pick_f rfl rfl ?_)
          | refine rl_step (by decide) (op_lss rfl rfl ?_)
          | refine rl_step (by decide) (op_leq rfl rfl ?_)
          | refine rl_step (by decide) (op_gtr rfl rfl ?_)
          | refine rl_step (by decide) (op_geq rfl rfl ?_)
          | refine rl_step (by decide) (op_eql rfl rfl ?_)
          | refine rl_step (by decide) (op_neq rfl rfl ?_)
          | refine rl_step (by decide) (op_not rfl ?_)
          | refine rl_step (by decide) (op_min rfl rfl ?_)
          | refine rl_step (by decide) (op_max rfl rfl ?_)
          | refine rl_step (by decide) (op_extract rfl rfl ?_)
          | refine rl_step (by decide) (op_add rfl rfl (by omega) ?_)
          | refine rl_step (by decide) (op_sub rfl rfl (by omega) ?_)
          | refine rl_step (by decide) (op_neg rfl (by omega) ?_)))
      refine rl_step (by decide) (op_len uLL rfl hJ.sn ?_)
      refine rl_step (by decide) (op_mul rfl rfl (by omega) ?_)
      (repeat (first
          | refine run_seq ?_
          | refine run_region_l ?_
          | refine rl_nil ?_
          | refine rl_step (by decide) (op_move rfl ?_)
          | refine rl_step (by decide) (op_assign rfl ?_)
          | refine run_block ?_
          | refine run_inBlock ?_
          | refine run_exit rfl ?_
          | refine run_skip ?_
          | refine run_label ?_
          | refine run_true rfl ?_
          | refine run_false rfl ?_
          | refine rl_yes rfl rfl ?_
          | refine rl_no rfl rfl rfl (by decide) ?_
          | refine rl_step (by decide) (op_pick_t rfl rfl ?_)
          | refine rl_step (by decide) (op_pick_f rfl rfl ?_)
          | refine rl_step (by decide) (op_lss rfl rfl ?_)
          | refine rl_step (by decide) (op_leq rfl rfl ?_)
          | refine rl_step (by decide) (op_gtr rfl rfl ?_)
          | refine rl_step (by decide) (op_geq rfl rfl ?_)
          | refine rl_step (by decide) (op_eql rfl rfl ?_)
          | refine rl_step (by decide) (op_neq rfl rfl ?_)
          | refine rl_step (by decide) (op_not rfl ?_)
          | refine rl_step (by decide) (op_min rfl rfl ?_)
          | refine rl_step (by decide) (op_max rfl rfl ?_)
          | refine rl_step (by decide) (op_extract rfl rfl ?_)
          | refine rl_step (by decide) (op_add rfl rfl (by omega) ?_)
          | refine rl_step (by decide) (op_sub rfl rfl (by omega) ?_)
          | refine rl_step (by decide) (op_neg rfl (by omega) ?_)))
      refine rl_step (by decide) (op_build (parts := [(0, .tmp 59), (1, .tmp 65)]) (vs := [.int .i64 (1000 * nts.length + note.length), .int .i64 (1000 * nts.length + note.length + 1)]) (pl := [(0, [.int .i64 (1000 * nts.length + note.length)]), (1, [.int .i64 (1000 * nts.length + note.length + 1)])]) sbL rfl
        ⟨rfl, rfl, Nat.le_of_ble_eq_true rfl, rfl, rfl, Nat.le_of_ble_eq_true rfl, trivial⟩ ?_)
      refine rl_step (by decide) (op_buildSlice (E := eLine) (n := 1) (parts := [(0, .tmp 66)]) (vs := [.agg #[.int .i64 (1000 * nts.length + note.length), .int .i64 (1000 * nts.length + note.length + 1), .slice none 0 0, .slice none 0 0]]) (l := [⟨1000 * nts.length + note.length, 1000 * nts.length + note.length + 1, [], []⟩]) uL teL hJ.rn rfl rfl
        ⟨eLine_V.2 ⟨_, _, rfl, by unfold I64; simp only; omega, by unfold I64; simp only; omega, SlOf.nil _ _ _, SlOf.nil _ _ _⟩, trivial⟩ rfl ⟨Nat.le_of_ble_eq_true rfl, Nat.le_of_ble_eq_true rfl⟩ ?_)
      intro u w11 hu _ hbel
      have hs1 : UpM M5 w10 M5 w11 := UpM.of_below hbel
      replace hJ := hJ.up hs1
      replace hX := hX.up hs1
      replace hgo := hgo.up hs1
      replace ho := ho.mono hs1.x
      refine rl_step (by decide) (op_append (E := eLine) (tag := 5) uL teL rfl rfl hJ.rn ho hgo hu (by show (note.length + 1) * 64 ≤ _; omega) ?_)
      intro vo' w12 M6 hso hgo' hst
      replace hJ := hJ.st hst (by decide)
      replace hX := hX.st hst (by decide)
      clear hst hs1 hbel hu
      (repeat (first
          | refine run_seq ?_
          | refine run_region_l ?_
          | refine rl_nil ?_
          | refine rl_step (by decide) (op_move rfl ?_)
          | refine rl_step (by decide) (op_assign rfl ?_)
          | refine run_block ?_
          | refine run_inBlock ?_
          | refine run_exit rfl ?_
          | refine run_skip ?_
          | refine run_label ?_
          | refine run_true rfl ?_
          | refine run_false rfl ?_
          | refine rl_yes rfl rfl ?_
          | refine rl_no rfl rfl rfl (by decide) ?_
          | refine rl_step (by decide) (op_pick_t rfl rfl ?_)
          | refine rl_step (by decide) (op_pick_f rfl rfl ?_)
          | refine rl_step (by decide) (op_lss rfl rfl ?_)
          | refine rl_step (by decide) (op_leq rfl rfl ?_)
          | refine rl_step (by decide) (op_gtr rfl rfl ?_)
          | refine rl_step (by decide) (op_geq rfl rfl ?_)
          | refine rl_step (by decide) (op_eql rfl rfl ?_)
          | refine rl_step (by decide) (op_neq rfl rfl ?_)
          | refine rl_step (by decide) (op_not rfl ?_)
          | refine rl_step (by decide) (op_min rfl rfl ?_)
          | refine rl_step (by decide) (op_max rfl rfl ?_)
          | refine rl_step (by decide) (op_extract rfl rfl ?_)
          | refine rl_step (by decide) (op_add rfl rfl (by omega) ?_)
          | refine rl_step (by decide) (op_sub rfl rfl (by omega) ?_)
          | refine rl_step (by decide) (op_neg rfl (by omega) ?_)))
      refine (ih3 ⟨_, vo', M6⟩ w12 ⟨hJ, hX, hso, hgo', by simp; omega⟩ (by simp; omega)).sub ?_
      repeat (first | exact trivial | refine ⟨rfl, ?_⟩ | refine ⟨by simp [look], ?_⟩)
    · (repeat (first
          | refine run_seq ?_
          | refine run_region_l ?_
          | refine rl_nil ?_
          | refine rl_step (by decide) (op_move rfl ?_)
          | refine rl_step (by decide) (op_assign rfl ?_)
          | refine run_block ?_
          | refine run_inBlock ?_
          | refine run_exit rfl ?_
          | refine run_skip ?_
          | refine run_label ?_
          | refine run_true rfl ?_
          | refine run_false rfl ?_
          | refine rl_yes rfl rfl ?_
          | refine rl_no rfl rfl rfl (by decide) ?_
          | refine rl_step (by decide) (op_pick_t rfl rfl ?_)
          | refine rl_step (by decide) (op_pick_f rfl rfl ?_)
          | refine rl_step (by decide) (op_lss rfl rfl ?_)
          | refine rl_step (by decide) (op_leq rfl rfl ?_)
          | refine rl_step (by decide) (op_gtr rfl rfl ?_)
          | refine rl_step (by decide) (op_geq rfl rfl ?_)
          | refine rl_step (by decide) (op_eql rfl rfl ?_)
          | refine rl_step (by decide) (op_neq rfl rfl ?_)
          | refine rl_step (by decide) (op_not rfl ?_)
          | refine rl_step (by decide) (op_min rfl rfl ?_)
          | refine rl_step (by decide) (op_max rfl rfl ?_)
          | refine rl_step (by decide) (op_extract rfl rfl ?_)
          | refine rl_step (by decide) (op_add rfl rfl (by omega) ?_)
          | refine rl_step (by decide) (op_sub rfl rfl (by omega) ?_)
          | refine rl_step (by decide) (op_neg rfl (by omega) ?_)))
      refine rl_step (by decide) (op_buildSlice (E := eSl eLine) (n := 1) (parts := [(0, .tmp 70)]) (vs := [vo]) (l := [note]) uLL teSL hJ.rn rfl rfl ⟨eSl_V.2 ho, trivial⟩ rfl ⟨Nat.le_of_ble_eq_true rfl, Nat.le_of_ble_eq_true rfl⟩ ?_)
      intro u w11 hu _ hbel
      have hs1 : UpM M5 w10 M5 w11 := UpM.of_below hbel
      replace hJ := hJ.up hs1
      replace hX := hX.up hs1
      refine rl_step (by decide) (op_append (E := eSl eLine) (tag := 2) uLL teSL rfl rfl hJ.rn hJ.sn hJ.gn hu (by show (nts.length + 1) * 24 ≤ _; omega) ?_)
      intro vn' w12 M6 hsn hgn hst
      replace hX := hX.st hst (by decide)
      have hJ : LJ M w v l M6 w12 body (nts ++ [note]) vb vn' := ⟨hJ.rn.st hst, hJ.sl.mono hst.x, hJ.sb.mono hst.x, hJ.gb.st hst (by decide), hsn, hgn⟩
      clear hst hs1 hbel hu
      (repeat (first
          | refine run_seq ?_
          | refine run_region_l ?_
          | refine rl_nil ?_
          | refine rl_step (by decide) (op_move rfl ?_)
          | refine rl_step (by decide) (op_assign rfl ?_)
          | refine run_block ?_
          | refine run_inBlock ?_
          | refine run_exit rfl ?_
          | refine run_skip ?_
          | refine run_label ?_
          | refine run_true rfl ?_
          | refine run_false rfl ?_
          | refine rl_yes rfl rfl ?_
          | refine rl_no rfl rfl rfl (by decide) ?_
          | refine rl_step (by decide) (op_pick_t rfl rfl ?_)
          | refine rl_step (by decide) (op_pick_f rfl rfl ?_)
          | refine rl_step (by decide) (op_lss rfl rfl ?_)
          | refine rl_step (by decide) (op_leq rfl rfl ?_)
          | refine rl_step (by decide) (op_gtr rfl rfl ?_)
          | refine rl_step (by decide) (op_geq rfl rfl ?_)
          | refine rl_step (by decide) (op_eql rfl rfl ?_)
          | refine rl_step (by decide) (op_neq rfl rfl ?_)
          | refine rl_step (by decide) (op_not rfl ?_)
          | refine rl_step (by decide) (op_min rfl rfl ?_)
          | refine rl_step (by decide) (op_max rfl rfl ?_)
          | refine rl_step (by decide) (op_extract rfl rfl ?_)
          | refine rl_step (by decide) (op_add rfl rfl (by omega) ?_)
          | refine rl_step (by decide) (op_sub rfl rfl (by omega) ?_)
          | refine rl_step (by decide) (op_neg rfl (by omega) ?_)))
      refine (ih2 ⟨k + 1, ns ++ [(nts.length : Int)], nts ++ [note], vx', vn', M6⟩ w12 ⟨hJ, hX, by simp, by simp only; omega, by simp; omega, ?_, ?_⟩ (by simp only; omega)).sub (by repeat (first | exact trivial | refine ⟨rfl, ?_⟩))
      · simp only
        intro y hy
        rcases List.mem_append.1 hy with hy | hy
        · exact hnn y hy
        · rw [List.mem_singleton.1 hy]
          refine ⟨fun hc => ?_, hno⟩
          rw [hc] at h3
          simp at h3
          omega
      · simp only
        rw [← List.append_assoc, hrf, List.length_append, List.length_singleton, List.range_succ, List.map_append]
        rfl
  · (repeat (first
        | refine run_seq ?_
        | refine run_region_l ?_
        | refine rl_nil ?_
        | refine rl_step (by decide) (op_move rfl ?_)
        | refine rl_step (by decide) (op_assign rfl ?_)
        | refine run_block ?_
        | refine run_inBlock ?_
        | refine run_exit rfl ?_
        | refine run_skip ?_
        | refine run_label ?_
        | refine run_true rfl ?_
        | refine run_false rfl ?_
        | refine rl_yes rfl rfl ?_
        | refine rl_no rfl rfl rfl (by decide) ?_
        | refine rl_step (by decide) (op_pick_t rfl rfl ?_)
        | refine rl_step (by decide) (op_pick_f rfl rfl ?_)
        | refine rl_step (by decide) (op_lss rfl rfl ?_)
        | refine rl_step (by decide) (op_leq rfl rfl ?_)
        | refine rl_step (by decide) (op_gtr rfl rfl ?_)
        | refine rl_step (by decide) (op_geq rfl rfl ?_)
        | refine rl_step (by decide) (op_eql rfl rfl ?_)
        | refine rl_step (by decide) (op_neq rfl rfl ?_)
        | refine rl_step (by decide) (op_not rfl ?_)
        | refine rl_step (by decide) (op_min rfl rfl ?_)
        | refine rl_step (by decide) (op_max rfl rfl ?_)
        | refine rl_step (by decide) (op_extract rfl rfl ?_)
        | refine rl_step (by decide) (op_add rfl rfl (by omega) ?_)
        | refine rl_step (by decide) (op_sub rfl rfl (by omega) ?_)
        | refine rl_step (by decide) (op_neg rfl (by omega) ?_)))
    refine rl_step (by decide) (op_loadn tdL rfl hX.box (Nat.le_of_ble_eq_true rfl) ?_)
    refine rl_step (by decide) (op_buildSlice (E := eLine) (n := 1) (parts := [(0, .tmp 74)]) (vs := [.agg #[.int .i64 body.length, .int .i64 (body.length + 1), .slice none 0 0, vx]]) (l := [⟨body.length, body.length + 1, [], ns⟩]) uL teL hJ.rn rfl rfl
      ⟨eLine_V.2 ⟨_, _, rfl, by unfold I64; simp only; omega, by unfold I64; simp only; omega, SlOf.nil _ _ _, hX.sx⟩, trivial⟩ rfl ⟨Nat.le_of_ble_eq_true rfl, Nat.le_of_ble_eq_true rfl⟩ ?_)
    intro u w6 hu _ hbel
    have hs1 : UpM M3 w5 M3 w6 := UpM.of_below hbel
    replace hJ := hJ.up hs1
    refine rl_step (by decide) (op_append (E := eLine) (tag := 1) uL teL rfl rfl hJ.rn hJ.sb hJ.gb hu (by show (body.length + 1) * 64 ≤ _; omega) ?_)
    intro vb' w7 M6 hsb hgb hst
    have hJ : LJ M w v l M6 w7 (body ++ [⟨body.length, body.length + 1, [], ns⟩]) nts vb' vn := ⟨hJ.rn.st hst, hJ.sl.mono hst.x, hsb, hgb, hJ.sn.mono hst.x, hJ.gn.st hst (by decide)⟩
    clear hst hs1 hbel hu
    (repeat (first
        | refine run_seq ?_
        | refine run_region_l ?_
        | refine rl_nil ?_
        | refine rl_step (by decide) (op_move rfl ?_)
        | refine rl_step (by decide) (op_assign rfl ?_)
        | refine run_block ?_
        | refine run_inBlock ?_
        | refine run_exit rfl ?_
        | refine run_skip ?_
        | refine run_label ?_
        | refine run_true rfl ?_
        | refine run_false rfl ?_
        | refine rl_yes rfl rfl ?_
        | refine rl_no rfl rfl rfl (by decide) ?_
        | refine rl_step (by decide) (op_pick_t rfl rfl ?_)
        | refine rl_step (by decide) (op_pick_f rfl rfl ?_)
        | refine rl_step (by decide) (op_lss rfl rfl ?_)
        | refine rl_step (by decide) (op_leq rfl rfl ?_)
        | refine rl_step (by decide) (op_gtr rfl rfl ?_)
        | refine rl_step (by decide) (op_geq rfl rfl ?_)
        | refine rl_step (by decide) (op_eql rfl rfl ?_)
        | refine rl_step (by decide) (op_neq rfl rfl ?_)
        | refine rl_step (by decide) (op_not rfl ?_)
        | refine rl_step (by decide) (op_min rfl rfl ?_)
        | refine rl_step (by decide) (op_max rfl rfl ?_)
        | refine rl_step (by decide) (op_extract rfl rfl ?_)
        | refine rl_step (by decide) (op_add rfl rfl (by omega) ?_)
        | refine rl_step (by decide) (op_sub rfl rfl (by omega) ?_)
        | refine rl_step (by decide) (op_neg rfl (by omega) ?_)))
    refine (ih ⟨i + 3, body ++ [⟨body.length, body.length + 1, [], ns⟩], nts, vb', vn, M6⟩ w7 ⟨hJ, ⟨by simp; omega, by simp; omega, hnn, ?_⟩, by simp; omega⟩ (by simp; omega)).sub ?_
    · simp only [refs, List.flatMap_append, List.flatMap_singleton]
      exact hrf
    · exact ⟨rfl, rfl, rfl, look_int rfl (by simp), look_int rfl (by simp), trivial⟩

end Go.Proofs.Ytocoinkhbjlbhaa
