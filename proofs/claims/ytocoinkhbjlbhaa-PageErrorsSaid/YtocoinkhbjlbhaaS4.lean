/-
  Walks: the closures of page.Set.
-/
import Derived.Test.YtocoinkhbjlbhaaS3
namespace Go.Proofs.Ytocoinkhbjlbhaa
open Go Go.RowKit

/-- An address of a variable. -/
abbrev ptr (b : Nat) : Value := .pointer (some ⟨b, 0, none⟩)

theorem room_c (M : Mut) (w : World) (bh bl bs th tl ts : Nat) (h n s : Int) (hh : Box M w bh th [.int .i64 h] 3) (hl : Box M w bl tl [.int .i64 n] 3) (hs : Box M w bs ts [.int .i64 s] 3)
    (h1 : 0 ≤ h ∧ h ≤ 1000) (h2 : 0 ≤ n ∧ n ≤ 1000) (h3 : 0 ≤ s ∧ s ≤ 1000) :
    CallsV Try.prog 44 [ptr bh, ptr bl, ptr bs] w (fun u w' => u = .int .i64 (h - n - s - min s 1) ∧ w' = w) := by
  refine callsV_of_run Try.func44 rfl Try.ntmps44 (Nat.le_of_ble_eq_true rfl) ?_
  (repeat (first
      | refine run_seq ?_
      | refine run_region_l ?_
      | refine rl_nil ?_
      | refine rl_step (by decide) (op_move rfl ?_)
      | refine rl_step (by decide) (op_assign rfl ?_)
      | refine run_block ?_
      | refine run_inBlock ?_
      | refine run_exit rfl ?_
      | refine run_skip ?_
      | refine run_label ?_
      | refine run_true rfl ?_
      | refine run_false rfl ?_
      | refine rl_yes rfl rfl ?_
      | refine rl_no rfl rfl rfl (by decide) ?_
      | refine rl_step (by decide) (op_pick_t rfl rfl ?_)
      | refine rl_step (by decide) (op_pick_f rfl rfl ?_)
      | refine rl_step (by decide) (op_lss rfl rfl ?_)
      | refine rl_step (by decide) (op_leq rfl rfl ?_)
      | refine rl_step (by decide) (op_gtr rfl rfl ?_)
      | refine rl_step (by decide) (op_geq rfl rfl ?_)
      | refine rl_step (by decide) (op_eql rfl rfl ?_)
      | refine rl_step (by decide) (op_neq rfl rfl ?_)
      | refine rl_step (by decide) (op_not rfl ?_)
      | refine rl_step (by decide) (op_min rfl rfl ?_)
      | refine rl_step (by decide) (op_max rfl rfl ?_)
      | refine rl_step (by decide) (op_extract rfl rfl ?_)
      | refine rl_step (by decide) (op_add rfl rfl (by omega) ?_)
      | refine rl_step (by decide) (op_sub rfl rfl (by omega) ?_)
      | refine rl_step (by decide) (op_neg rfl (by omega) ?_)))
  refine rl_step (by decide) (op_load1 tdI rfl hh rfl ?_)
  refine rl_step (by decide) (op_load1 tdI rfl hl rfl ?_)
  (repeat (first
      | refine run_seq ?_
      | refine run_region_l ?_
      | refine rl_nil ?_
      | refine rl_step (by decide) (op_move rfl ?_)
      | refine rl_step (by decide) (op_assign rfl ?_)
      | refine run_block ?_
      | refine run_inBlock ?_
      | refine run_exit rfl ?_
      | refine run_skip ?_
      | refine run_label ?_
      | refine run_true rfl ?_
      | refine run_false rfl ?_
      | refine rl_yes rfl rfl ?_
      | refine rl_no rfl rfl rfl (by decide) ?_
      | refine rl_step (by decide) (op_pick_t rfl rfl ?_)
      | refine rl_step (by decide) (op_pick_f rfl rfl ?_)
      | refine rl_step (by decide) (op_lss rfl rfl ?_)
      | refine rl_step (by decide) (op_leq rfl rfl ?_)
      | refine rl_step (by decide) (op_gtr rfl rfl ?_)
      | refine rl_step (by decide) (op_geq rfl rfl ?_)
      | refine rl_step (by decide) (op_eql rfl rfl ?_)
      | refine rl_step (by decide) (op_neq rfl rfl ?_)
      | refine rl_step (by decide) (op_not rfl ?_)
      | refine rl_step (by decide) (op_min rfl rfl ?_)
      | refine rl_step (by decide) (op_max rfl rfl ?_)
      | refine rl_step (by decide) (op_extract rfl rfl ?_)
      | refine rl_step (by decide) (op_add rfl rfl (by omega) ?_)
      | refine rl_step (by decide) (op_sub rfl rfl (by omega) ?_)
      | refine rl_step (by decide) (op_neg rfl (by omega) ?_)))
  refine rl_step (by decide) (op_load1 tdI rfl hs rfl ?_)
  (repeat (first
      | refine run_seq ?_
      | refine run_region_l ?_
      | refine rl_nil ?_
      | refine rl_step (by decide) (op_move rfl ?_)
      | refine rl_step (by decide) (op_assign rfl ?_)
      | refine run_block ?_
      | refine run_inBlock ?_
      | refine run_exit rfl ?_
      | refine run_skip ?_
      | refine run_label ?_
      | refine run_true rfl ?_
      | refine run_false rfl ?_
      | refine rl_yes rfl rfl ?_
      | refine rl_no rfl rfl rfl (by decide) ?_
      | refine rl_step (by decide) (op_pick_t rfl rfl ?_)
      | refine rl_step (by decide) (op_pick_f rfl rfl ?_)
      | refine rl_step (by decide) (op_lss rfl rfl ?_)
      | refine rl_step (by decide) (op_leq rfl rfl ?_)
      | refine rl_step (by decide) (op_gtr rfl rfl ?_)
      | refine rl_step (by decide) (op_geq rfl rfl ?_)
      | refine rl_step (by decide) (op_eql rfl rfl ?_)
      | refine rl_step (by decide) (op_neq rfl rfl ?_)
      | refine rl_step (by decide) (op_not rfl ?_)
      | refine rl_step (by decide) (op_min rfl rfl ?_)
      | refine rl_step (by decide) (op_max rfl rfl ?_)
      | refine rl_step (by decide) (op_extract rfl rfl ?_)
      | refine rl_step (by decide) (op_add rfl rfl (by omega) ?_)
      | refine rl_step (by decide) (op_sub rfl rfl (by omega) ?_)
      | refine rl_step (by decide) (op_neg rfl (by omega) ?_)))
  refine rl_step (by decide) (op_load1 tdI rfl hs rfl ?_)
  (repeat (first
      | refine run_seq ?_
      | refine run_region_l ?_
      | refine rl_nil ?_
      | refine rl_step (by decide) (op_move rfl ?_)
      | refine rl_step (by decide) (op_assign rfl ?_)
      | refine run_block ?_
      | refine run_inBlock ?_
      | refine run_exit rfl ?_
      | refine run_skip ?_
      | refine run_label ?_
      | refine run_true rfl ?_
      | refine run_false rfl ?_
      | refine rl_yes rfl rfl ?_
      | refine rl_no rfl rfl rfl (by decide) ?_
      | refine rl_step (by decide) (op_pick_t rfl rfl ?_)
      | refine rl_step (by decide) (op_pick_f rfl rfl ?_)
      | refine rl_step (by decide) (op_lss rfl rfl ?_)
      | refine rl_step (by decide) (op_leq rfl rfl ?_)
      | refine rl_step (by decide) (op_gtr rfl rfl ?_)
      | refine rl_step (by decide) (op_geq rfl rfl ?_)
      | refine rl_step (by decide) (op_eql rfl rfl ?_)
      | refine rl_step (by decide) (op_neq rfl rfl ?_)
      | refine rl_step (by decide) (op_not rfl ?_)
      | refine rl_step (by decide) (op_min rfl rfl ?_)
      | refine rl_step (by decide) (op_max rfl rfl ?_)
      | refine rl_step (by decide) (op_extract rfl rfl ?_)
      | refine rl_step (by decide) (op_add rfl rfl (by omega) ?_)
      | refine rl_step (by decide) (op_sub rfl rfl (by omega) ?_)
      | refine rl_step (by decide) (op_neg rfl (by omega) ?_)))
  refine run_ret1 Try.func44 rfl rfl ?_
  exact ⟨rfl, rfl⟩

/-- The variables of page.Set: where they lie, and what they hold. -/
structure Vars (M : Mut) (w : World) (bb bh bq bl bs br : Nat) (vb vq : Value) (h n s : Int) : Prop where
  body : Box M w bb 3 [vb] 23
  height : Box M w bh 5 [.int .i64 h] 3
  queue : Box M w bq 10 [vq] 23
  lines : Box M w bl 11 [.int .i64 n] 3
  shown : Box M w bs 12 [.int .i64 s] 3
  room : Box M w br 13 [.func (.func 44) #[] #[ptr bh, ptr bl, ptr bs]] 63

theorem Vars.up {M M' : Mut} {w w' : World} {bb bh bq bl bs br : Nat} {vb vq : Value} {h n s : Int} (k : Vars M w bb bh bq bl bs br vb vq h n s) (hs : UpM M w M' w') : Vars M' w' bb bh bq bl bs br vb vq h n s :=
  ⟨k.body.up hs, k.height.up hs, k.queue.up hs, k.lines.up hs, k.shown.up hs, k.room.up hs⟩

theorem tdF : TD Try.prog 63 1 8 false [.nilFunc] := TD.mk' (z := .nilFunc) (by kernel_rfl) Try.underlying63 rfl

theorem fits_c (M : Mut) (w : World) (bb bh bq bl bs br : Nat) (vb vq : Value) (h n s : Int) (body q : List Line) (hv : Vars M w bb bh bq bl bs br vb vq h n s) (hb : SlOf eLine M w vb body) (hq : SlOf eLine M w vq q)
    (h1 : 0 ≤ h ∧ h ≤ 1000) (h2 : 0 ≤ n ∧ n ≤ 1000) (h3 : 0 ≤ s ∧ s ≤ 1000) (hn : n ≤ body.length) :
    CallsV Try.prog 45 [ptr bl, ptr bb, ptr br, ptr bs, ptr bq] w (fun u w' => u = .bool (match body[n.toNat]? with | none => false | some x => fitsB h x n s q.length) ∧ Below w.heap.size w w') := by
  refine callsV_of_run Try.func45 rfl Try.ntmps45 (Nat.le_of_ble_eq_true rfl) ?_
  (repeat (first
      | refine run_seq ?_
      | refine run_region_l ?_
      | refine rl_nil ?_
      | refine rl_step (by decide) (op_move rfl ?_)
      | refine rl_step (by decide) (op_assign rfl ?_)
      | refine run_block ?_
      | refine run_inBlock ?_
      | refine run_exit rfl ?_
      | refine run_skip ?_
      | refine run_label ?_
      | refine run_true rfl ?_
      | refine run_false rfl ?_
      | refine rl_yes rfl rfl ?_
      | refine rl_no rfl rfl rfl (by decide) ?_
      | refine rl_step (by decide) (op_pick_t rfl rfl ?_)
      | refine rl_step (by decide) (op_pick_f rfl rfl ?_)
      | refine rl_step (by decide) (op_lss rfl rfl ?_)
      | refine rl_step (by decide) (op_leq rfl rfl ?_)
      | refine rl_step (by decide) (op_gtr rfl rfl ?_)
      | refine rl_step (by decide) (op_geq rfl rfl ?_)
      | refine rl_step (by decide) (op_eql rfl rfl ?_)
      | refine rl_step (by decide) (op_neq rfl rfl ?_)
      | refine rl_step (by decide) (op_not rfl ?_)
      | refine rl_step (by decide) (op_min rfl rfl ?_)
      | refine rl_step (by decide) (op_max rfl rfl ?_)
      | refine rl_step (by decide) (op_extract rfl rfl ?_)
      | refine rl_step (by decide) (op_add rfl rfl (by omega) ?_)
      | refine rl_step (by decide) (op_sub rfl rfl (by omega) ?_)
      | refine rl_step (by decide) (op_neg rfl (by omega) ?_)))
  refine rl_step (by decide) (op_load1 tdI rfl hv.lines rfl ?_)
  refine rl_step (by decide) (op_load1 tdSL rfl hv.body rfl ?_)
  refine rl_step (by decide) (op_len uL rfl hb ?_)
  (repeat (first
      | refine run_seq ?_
      | refine run_region_l ?_
      | refine rl_nil ?_
      | refine rl_step (by decide) (op_move rfl ?_)
      | refine rl_step (by decide) (op_assign rfl ?_)
      | refine run_block ?_
      | refine run_inBlock ?_
      | refine run_exit rfl ?_
      | refine run_skip ?_
      | refine run_label ?_
      | refine run_true rfl ?_
      | refine run_false rfl ?_
      | refine rl_yes rfl rfl ?_
      | refine rl_no rfl rfl rfl (by decide) ?_
      | refine rl_step (by decide) (op_pick_t rfl rfl ?_)
      | refine rl_step (by decide) (op_pick_f rfl rfl ?_)
      | refine rl_step (by decide) (op_lss rfl rfl ?_)
      | refine rl_step (by decide) (op_leq rfl rfl ?_)
      | refine rl_step (by decide) (op_gtr rfl rfl ?_)
      | refine rl_step (by decide) (op_geq rfl rfl ?_)
      | refine rl_step (by decide) (op_eql rfl rfl ?_)
      | refine rl_step (by decide) (op_neq rfl rfl ?_)
      | refine rl_step (by decide) (op_not rfl ?_)
      | refine rl_step (by decide) (op_min rfl rfl ?_)
      | refine rl_step (by decide) (op_max rfl rfl ?_)
      | refine rl_step (by decide) (op_extract rfl rfl ?_)
      | refine rl_step (by decide) (op_add rfl rfl (by omega) ?_)
      | refine rl_step (by decide) (op_sub rfl rfl (by omega) ?_)
      | refine rl_step (by decide) (op_neg rfl (by omega) ?_)))
  refine run_if rfl (fun hc => ?_) (fun hc => ?_)
  · (repeat (first
        | refine run_seq ?_
        | refine run_region_l ?_
        | refine rl_nil ?_
        | refine rl_step (by decide) (op_move rfl ?_)
        | refine rl_step (by decide) (op_assign rfl ?_)
        | refine run_block ?_
        | refine run_inBlock ?_
        | refine run_exit rfl ?_
        | refine run_skip ?_
        | refine run_label ?_
        | refine run_true rfl ?_
        | refine run_false rfl ?_
        | refine rl_yes rfl rfl ?_
        | refine rl_no rfl rfl rfl (by decide) ?_
        | refine rl_step (by decide) (op_pick_t rfl rfl ?_)
        | refine rl_step (by decide) (op_pick_f rfl rfl ?_)
        | refine rl_step (by decide) (op_lss rfl rfl ?_)
        | refine rl_step (by decide) (op_leq rfl rfl ?_)
        | refine rl_step (by decide) (op_gtr rfl rfl ?_)
        | refine rl_step (by decide) (op_geq rfl rfl ?_)
        | refine rl_step (by decide) (op_eql rfl rfl ?_)
        | refine rl_step (by decide) (op_neq rfl rfl ?_)
        | refine rl_step (by decide) (op_not rfl ?_)
        | refine rl_step (by decide) (op_min rfl rfl ?_)
        | refine rl_step (by decide) (op_max rfl rfl ?_)
        | refine rl_step (by decide) (op_extract rfl rfl ?_)
        | refine rl_step (by decide) (op_add rfl rfl (by omega) ?_)
        | refine rl_step (by decide) (op_sub rfl rfl (by omega) ?_)
        | refine rl_step (by decide) (op_neg rfl (by omega) ?_)))
    refine run_ret1 Try.func45 rfl rfl ?_
    rw [List.getElem?_eq_none (by omega)]
    exact ⟨rfl, Below.refl _ _⟩
  have hlt : n.toNat < body.length := by omega
  rw [List.getElem?_eq_getElem hlt]
  simp only [fitsB]
  (repeat (first
      | refine run_seq ?_
      | refine run_region_l ?_
      | refine rl_nil ?_
      | refine rl_step (by decide) (op_move rfl ?_)
      | refine rl_step (by decide) (op_assign rfl ?_)
      | refine run_block ?_
      | refine run_inBlock ?_
      | refine run_exit rfl ?_
      | refine run_skip ?_
      | refine run_label ?_
      | refine run_true rfl ?_
      | refine run_false rfl ?_
      | refine rl_yes rfl rfl ?_
      | refine rl_no rfl rfl rfl (by decide) ?_
      | refine rl_step (by decide) (op_pick_t rfl rfl ?_)
      | refine rl_step (by decide) (op_pick_f rfl rfl ?_)
      | refine rl_step (by decide) (op_lss rfl rfl ?_)
      | refine rl_step (by decide) (op_leq rfl rfl ?_)
      | refine rl_step (by decide) (op_gtr rfl rfl ?_)
      | refine rl_step (by decide) (op_geq rfl rfl ?_)
      | refine rl_step (by decide) (op_eql rfl rfl ?_)
      | refine rl_step (by decide) (op_neq rfl rfl ?_)
      | refine rl_step (by decide) (op_not rfl ?_)
      | refine rl_step (by decide) (op_min rfl rfl ?_)
      | refine rl_step (by decide) (op_max rfl rfl ?_)
      | refine rl_step (by decide) (op_extract rfl rfl ?_)
      | refine rl_step (by decide) (op_add rfl rfl (by omega) ?_)
      | refine rl_step (by decide) (op_sub rfl rfl (by omega) ?_)
      | refine rl_step (by decide) (op_neg rfl (by omega) ?_)))
  refine rl_step (by decide) (op_load1 tdSL rfl hv.body rfl ?_)
  refine rl_step (by decide) (op_load1 tdI rfl hv.lines rfl ?_)
  refine rl_step (by decide) (op_indexAddr uL teL rfl rfl hb (by omega) ?_)
  intro ad _ he
  refine rl_step (by decide) (op_fieldAddr fdL3 rfl ?_)
  refine rl_step (by decide) (op_load teSI rfl he.line.2.2.2 ?_)
  intro u hu
  rw [eSl_V] at hu
  refine rl_step (by decide) (op_len uI rfl hu ?_)
  (repeat (first
      | refine run_seq ?_
      | refine run_region_l ?_
      | refine rl_nil ?_
      | refine rl_step (by decide) (op_move rfl ?_)
      | refine rl_step (by decide) (op_assign rfl ?_)
      | refine run_block ?_
      | refine run_inBlock ?_
      | refine run_exit rfl ?_
      | refine run_skip ?_
      | refine run_label ?_
      | refine run_true rfl ?_
      | refine run_false rfl ?_
      | refine rl_yes rfl rfl ?_
      | refine rl_no rfl rfl rfl (by decide) ?_
      | refine rl_step (by decide) (op_pick_t rfl rfl ?_)
      | refine rl_step (by decide) (op_pick_f rfl rfl ?_)
      | refine rl_step (by decide) (op_lss rfl rfl ?_)
      | refine rl_step (by decide) (op_leq rfl rfl ?_)
      | refine rl_step (by decide) (op_gtr rfl rfl ?_)
      | refine rl_step (by decide) (op_geq rfl rfl ?_)
      | refine rl_step (by decide) (op_eql rfl rfl ?_)
      | refine rl_step (by decide) (op_neq rfl rfl ?_)
      | refine rl_step (by decide) (op_not rfl ?_)
      | refine rl_step (by decide) (op_min rfl rfl ?_)
      | refine rl_step (by decide) (op_max rfl rfl ?_)
      | refine rl_step (by decide) (op_extract rfl rfl ?_)
      | refine rl_step (by decide) (op_add rfl rfl (by omega) ?_)
      | refine rl_step (by decide) (op_sub rfl rfl (by omega) ?_)
      | refine rl_step (by decide) (op_neg rfl (by omega) ?_)))
  refine run_if rfl (fun hc2 => ?_) (fun hc2 => ?_)
  · rw [if_pos (List.eq_nil_of_length_eq_zero (by omega))]
    (repeat (first
        | refine run_seq ?_
        | refine run_region_l ?_
        | refine rl_nil ?_
        | refine rl_step (by decide) (op_move rfl ?_)
        | refine rl_step (by decide) (op_assign rfl ?_)
        | refine run_block ?_
        | refine run_inBlock ?_
        | refine run_exit rfl ?_
        | refine run_skip ?_
        | refine run_label ?_
        | refine run_true rfl ?_
        | refine run_false rfl ?_
        | refine rl_yes rfl rfl ?_
        | refine rl_no rfl rfl rfl (by decide) ?_
        | refine rl_step (by decide) (op_pick_t rfl rfl ?_)
        | refine rl_step (by decide) (op_pick_f rfl rfl ?_)
        | refine rl_step (by decide) (op_lss rfl rfl ?_)
        | refine rl_step (by decide) (op_leq rfl rfl ?_)
        | refine rl_step (by decide) (op_gtr rfl rfl ?_)
        | refine rl_step (by decide) (op_geq rfl rfl ?_)
        | refine rl_step (by decide) (op_eql rfl rfl ?_)
        | refine rl_step (by decide) (op_neq rfl rfl ?_)
        | refine rl_step (by decide) (op_not rfl ?_)
        | refine rl_step (by decide) (op_min rfl rfl ?_)
        | refine rl_step (by decide) (op_max rfl rfl ?_)
        | refine rl_step (by decide) (op_extract rfl rfl ?_)
        | refine rl_step (by decide) (op_add rfl rfl (by omega) ?_)
        | refine rl_step (by decide) (op_sub rfl rfl (by omega) ?_)
        | refine rl_step (by decide) (op_neg rfl (by omega) ?_)))
    refine rl_step (by decide) (op_load1 tdF rfl hv.room rfl ?_)
    refine rl_step (by decide) (op_callv (cap := [ptr bh, ptr bl, ptr bs]) ent44 rfl rfl (room_c M w bh bl bs 5 11 12 h n s hv.height hv.lines hv.shown h1 h2 h3) ?_)
    rintro r w1 ⟨rfl, rfl⟩
    (repeat (first
        | refine run_seq ?_
        | refine run_region_l ?_
        | refine rl_nil ?_
        | refine rl_step (by decide) (op_move rfl ?_)
        | refine rl_step (by decide) (op_assign rfl ?_)
        | refine run_block ?_
        | refine run_inBlock ?_
        | refine run_exit rfl ?_
        | refine run_skip ?_
        | refine run_label ?_
        | refine run_true rfl ?_
        | refine run_false rfl ?_
        | refine rl_yes rfl rfl ?_
        | refine rl_no rfl rfl rfl (by decide) ?_
        | refine rl_step (by decide) (op_pick_t rfl rfl ?_)
        | refine rl_step (by decide) (op_pick_f rfl rfl ?_)
        | refine rl_step (by decide) (op_lss rfl rfl ?_)
        | refine rl_step (by decide) (op_leq rfl rfl ?_)
        | refine rl_step (by decide) (op_gtr rfl rfl ?_)
        | refine rl_step (by decide) (op_geq rfl rfl ?_)
        | refine rl_step (by decide) (op_eql rfl rfl ?_)
        | refine rl_step (by decide) (op_neq rfl rfl ?_)
        | refine rl_step (by decide) (op_not rfl ?_)
        | refine rl_step (by decide) (op_min rfl rfl ?_)
        | refine rl_step (by decide) (op_max rfl rfl ?_)
        | refine rl_step (by decide) (op_extract rfl rfl ?_)
        | refine rl_step (by decide) (op_add rfl rfl (by omega) ?_)
        | refine rl_step (by decide) (op_sub rfl rfl (by omega) ?_)
        | refine rl_step (by decide) (op_neg rfl (by omega) ?_)))
    refine run_ret1 Try.func45 rfl rfl ?_
    exact ⟨rfl, Below.refl _ _⟩
  · rw [if_neg (fun hc => hc2 (by rw [hc]; rfl))]
    (repeat (first
        | refine run_seq ?_
        | refine run_region_l ?_
        | refine rl_nil ?_
        | refine rl_step (by decide) (op_move rfl ?_)
        | refine rl_step (by decide) (op_assign rfl ?_)
        | refine run_block ?_
        | refine run_inBlock ?_
        | refine run_exit rfl ?_
        | refine run_skip ?_
        | refine run_label ?_
        | refine run_true rfl ?_
        | refine run_false rfl ?_
        | refine rl_yes rfl rfl ?_
        | refine rl_no rfl rfl rfl (by decide) ?_
        | refine rl_step (by decide) (op_pick_t rfl rfl ?_)
        | refine rl_step (by decide) (op_pick_f rfl rfl ?_)
        | refine rl_step (by decide) (op_lss rfl rfl ?_)
        | refine rl_step (by decide) (op_leq rfl rfl ?_)
        | refine rl_step (by decide) (op_gtr rfl rfl ?_)
        | refine rl_step (by decide) (op_geq rfl rfl ?_)
        | refine rl_step (by decide) (op_eql rfl rfl ?_)
        | refine rl_step (by decide) (op_neq rfl rfl ?_)
        | refine rl_step (by decide) (op_not rfl ?_)
        | refine rl_step (by decide) (op_min rfl rfl ?_)
        | refine rl_step (by decide) (op_max rfl rfl ?_)
        | refine rl_step (by decide) (op_extract rfl rfl ?_)
        | refine rl_step (by decide) (op_add rfl rfl (by omega) ?_)
        | refine rl_step (by decide) (op_sub rfl rfl (by omega) ?_)
        | refine rl_step (by decide) (op_neg rfl (by omega) ?_)))
    by_cases hsq : s = q.length
    · refine region_dr (M := M) 12 1 [] mixed rfl (by kernel_rfl) (fun w1 hs1 => ?_)
      replace hq := hq.mono hs1.x
      replace hv := hv.up hs1
      refine dr_cons (isv (.int .i64 s)) (by decide) (mono_isv _) (ob0 rfl fun M w' hs => opg (op_load1 tdI rfl (hv.up hs).shown rfl ⟨_, UpM.refl _ _, rfl⟩)) ?_
      refine dr_cons (isv vq) (by decide) (mono_isv _) (ob0 rfl fun M w' hs => opg (op_load1 tdSL rfl (hv.up hs).queue rfl ⟨_, UpM.refl _ _, rfl⟩)) ?_
      refine dr_cons (isv (.int .i64 q.length)) (by decide) (mono_isv _) (ob1 rfl fun M w' hs v1 h1 => ?_) ?_
      · cases h1; exact opg (op_len uL rfl (hq.mono hs.x) ⟨_, UpM.refl _ _, rfl⟩)
      refine dr_cons (isv (.bool true)) (by decide) (mono_isv _) (ob2 rfl fun M w' hs v1 h1 v2 h2 => ?_) ?_
      · cases h1; cases h2; exact opg (op_eql rfl rfl ⟨_, UpM.refl _ _, by rw [decide_eq_true hsq]; rfl⟩)
      refine dr_cons (isv (.bool true)) (by decide) (mono_isv _) (ob1 rfl fun M w' hs v1 h1 => ?_) ?_
      · cases h1; exact opg (op_move rfl ⟨_, UpM.refl _ _, rfl⟩)
      refine dr_cons (isv (.func (.func 44) #[] #[ptr bh, ptr bl, ptr bs])) (by decide) (mono_isv _) (ob1 rfl fun M w' hs v1 h1 => ?_) ?_
      · cases h1; exact opg_yes rfl rfl (op_load1 tdF rfl (hv.up hs).room rfl ⟨_, UpM.refl _ _, rfl⟩)
      refine dr_cons (isv (.int .i64 (h - n - s - min s 1))) (by decide) (mono_isv _) (ob2 rfl fun M w' hs v1 k1 v2 k2 => ?_) ?_
      · cases k1; cases k2
        refine opg_yes rfl rfl (op_callv (cap := [ptr bh, ptr bl, ptr bs]) ent44 rfl rfl (room_c M w' bh bl bs 5 11 12 h n s (hv.up hs).height (hv.up hs).lines (hv.up hs).shown h1 h2 h3) ?_)
        rintro r w1 ⟨rfl, rfl⟩
        exact ⟨_, UpM.refl _ _, rfl⟩
      refine dr_cons (isv (.int .i64 s)) (by decide) (mono_isv _) (ob1 rfl fun M w' hs v1 k1 => ?_) ?_
      · cases k1; exact opg_yes rfl rfl (op_load1 tdI rfl (hv.up hs).shown rfl ⟨_, UpM.refl _ _, rfl⟩)
      refine dr_cons (isv (.int .i64 (min s 1))) (by decide) (mono_isv _) (ob2 rfl fun M w' hs v1 k1 v2 k2 => ?_) ?_
      · cases k1; cases k2; exact opg_yes rfl rfl (op_min rfl rfl ⟨_, UpM.refl _ _, rfl⟩)
      refine dr_cons (isv (.int .i64 (3 - min s 1))) (by decide) (mono_isv _) (ob2 rfl fun M w' hs v1 k1 v2 k2 => ?_) ?_
      · cases k1; cases k2; exact opg_yes rfl rfl (op_sub rfl rfl (by omega) ⟨_, UpM.refl _ _, rfl⟩)
      refine dr_cons (isv (.bool (decide (3 - min s 1 ≤ h - n - s - min s 1)))) (by decide) (mono_isv _) (ob3 rfl fun M w' hs v1 k1 v2 k2 v3 k3 => ?_) ?_
      · cases k1; cases k2; cases k3; exact opg_yes rfl rfl (op_geq rfl rfl ⟨_, UpM.refl _ _, rfl⟩)
      refine dr_cons (isv (.bool (decide (3 - min s 1 ≤ h - n - s - min s 1)))) (by decide) (mono_isv _) (ob2 rfl fun M w' hs v1 k1 v2 k2 => ?_) ?_
      · cases k1; cases k2; exact opg (op_pick_t rfl rfl ⟨_, UpM.refl _ _, rfl⟩)
      refine dr_nil rfl (fun M3 w4 val hs2 hall => ?_)
      obtain ⟨h33, _⟩ := hall
      have e33 : val 33 = _ := h33
      refine RT.sub (fr' := [(33, val 33)]) ?_ (by repeat (first | exact trivial | refine ⟨rfl, ?_⟩))
      rw [e33]
      refine rt_one (i := 12) (by kernel_rfl) rfl (by decide) (op_assign rfl ?_)
      refine rt_nil (by kernel_rfl) ?_
      (repeat (first
          | refine run_seq ?_
          | refine run_region_l ?_
          | refine rl_nil ?_
          | refine rl_step (by decide) (op_move rfl ?_)
          | refine rl_step (by decide) (op_assign rfl ?_)
          | refine run_block ?_
          | refine run_inBlock ?_
          | refine run_exit rfl ?_
          | refine run_skip ?_
          | refine run_label ?_
          | refine run_true rfl ?_
          | refine run_false rfl ?_
          | refine rl_yes rfl rfl ?_
          | refine rl_no rfl rfl rfl (by decide) ?_
          | refine rl_step (by decide) (op_pick_t rfl rfl ?_)
          | refine rl_step (by decide) (op_pick_f rfl rfl ?_)
          | refine rl_step (by decide) (op_lss rfl rfl ?_)
          | refine rl_step (by decide) (op_leq rfl rfl ?_)
          | refine rl_step (by decide) (op_gtr rfl rfl ?_)
          | refine rl_step (by decide) (op_geq rfl rfl ?_)
          | refine rl_step (by decide) (op_eql rfl rfl ?_)
          | refine rl_step (by decide) (op_neq rfl rfl ?_)
          | refine rl_step (by decide) (op_not rfl ?_)
          | refine rl_step (by decide) (op_min rfl rfl ?_)
          | refine rl_step (by decide) (op_max rfl rfl ?_)
          | refine rl_step (by decide) (op_extract rfl rfl ?_)
          | refine rl_step (by decide) (op_add rfl rfl (by omega) ?_)
          | refine rl_step (by decide) (op_sub rfl rfl (by omega) ?_)
          | refine rl_step (by decide) (op_neg rfl (by omega) ?_)))
      refine run_ret1 Try.func45 rfl rfl ?_
      exact ⟨by rw [decide_eq_true hsq, Bool.true_and], (hs1.trans hs2).bel⟩
    · refine region_dr (M := M) 12 1 [] mixed rfl (by kernel_rfl) (fun w1 hs1 => ?_)
      replace hq := hq.mono hs1.x
      replace hv := hv.up hs1
      refine dr_cons (isv (.int .i64 s)) (by decide) (mono_isv _) (ob0 rfl fun M w' hs => opg (op_load1 tdI rfl (hv.up hs).shown rfl ⟨_, UpM.refl _ _, rfl⟩)) ?_
      refine dr_cons (isv vq) (by decide) (mono_isv _) (ob0 rfl fun M w' hs => opg (op_load1 tdSL rfl (hv.up hs).queue rfl ⟨_, UpM.refl _ _, rfl⟩)) ?_
      refine dr_cons (isv (.int .i64 q.length)) (by decide) (mono_isv _) (ob1 rfl fun M w' hs v1 h1 => ?_) ?_
      · cases h1; exact opg (op_len uL rfl (hq.mono hs.x) ⟨_, UpM.refl _ _, rfl⟩)
      refine dr_cons (isv (.bool false)) (by decide) (mono_isv _) (ob2 rfl fun M w' hs v1 h1 v2 h2 => ?_) ?_
      · cases h1; cases h2; exact opg (op_eql rfl rfl ⟨_, UpM.refl _ _, by rw [decide_eq_false hsq]; rfl⟩)
      refine dr_cons (isv (.bool false)) (by decide) (mono_isv _) (ob1 rfl fun M w' hs v1 h1 => ?_) ?_
      · cases h1; exact opg (op_move rfl ⟨_, UpM.refl _ _, rfl⟩)
      refine dr_cons (isv undef) (by decide) (mono_isv _) (ob1 rfl fun M w' hs v1 k1 => ?_) ?_
      · cases k1; exact opg_no rfl rfl (by decide) ⟨_, UpM.refl _ _, rfl⟩
      refine dr_cons (isv undef) (by decide) (mono_isv _) (ob2 rfl fun M w' hs v1 k1 v2 k2 => ?_) ?_
      · cases k1; cases k2; exact opg_no rfl rfl (by decide) ⟨_, UpM.refl _ _, rfl⟩
      refine dr_cons (isv undef) (by decide) (mono_isv _) (ob1 rfl fun M w' hs v1 k1 => ?_) ?_
      · cases k1; exact opg_no rfl rfl (by decide) ⟨_, UpM.refl _ _, rfl⟩
      refine dr_cons (isv undef) (by decide) (mono_isv _) (ob2 rfl fun M w' hs v1 k1 v2 k2 => ?_) ?_
      · cases k1; cases k2; exact opg_no rfl rfl (by decide) ⟨_, UpM.refl _ _, rfl⟩
      refine dr_cons (isv undef) (by decide) (mono_isv _) (ob2 rfl fun M w' hs v1 k1 v2 k2 => ?_) ?_
      · cases k1; cases k2; exact opg_no rfl rfl (by decide) ⟨_, UpM.refl _ _, rfl⟩
      refine dr_cons (isv undef) (by decide) (mono_isv _) (ob3 rfl fun M w' hs v1 k1 v2 k2 v3 k3 => ?_) ?_
      · cases k1; cases k2; cases k3; exact opg_no rfl rfl (by decide) ⟨_, UpM.refl _ _, rfl⟩
      refine dr_cons (isv (.bool false)) (by decide) (mono_isv _) (ob2 rfl fun M w' hs v1 k1 v2 k2 => ?_) ?_
      · cases k1; cases k2; exact opg (op_pick_f rfl rfl ⟨_, UpM.refl _ _, rfl⟩)
      refine dr_nil rfl (fun M3 w4 val hs2 hall => ?_)
      obtain ⟨h33, _⟩ := hall
      have e33 : val 33 = _ := h33
      refine RT.sub (fr' := [(33, val 33)]) ?_ (by repeat (first | exact trivial | refine ⟨rfl, ?_⟩))
      rw [e33]
      refine rt_one (i := 12) (by kernel_rfl) rfl (by decide) (op_assign rfl ?_)
      refine rt_nil (by kernel_rfl) ?_
      (repeat (first
          | refine run_seq ?_
          | refine run_region_l ?_
          | refine rl_nil ?_
          | refine rl_step (by decide) (op_move rfl ?_)
          | refine rl_step (by decide) (op_assign rfl ?_)
          | refine run_block ?_
          | refine run_inBlock ?_
          | refine run_exit rfl ?_
          | refine run_skip ?_
          | refine run_label ?_
          | refine run_true rfl ?_
          | refine run_false rfl ?_
          | refine rl_yes rfl rfl ?_
          | refine rl_no rfl rfl rfl (by decide) ?_
          | refine rl_step (by decide) (op_pick_t rfl rfl ?_)
          | refine rl_step (by decide) (op_pick_f rfl rfl ?_)
          | refine rl_step (by decide) (op_lss rfl rfl ?_)
          | refine rl_step (by decide) (op_leq rfl rfl ?_)
          | refine rl_step (by decide) (op_gtr rfl rfl ?_)
          | refine rl_step (by decide) (op_geq rfl rfl ?_)
          | refine rl_step (by decide) (op_eql rfl rfl ?_)
          | refine rl_step (by decide) (op_neq rfl rfl ?_)
          | refine rl_step (by decide) (op_not rfl ?_)
          | refine rl_step (by decide) (op_min rfl rfl ?_)
          | refine rl_step (by decide) (op_max rfl rfl ?_)
          | refine rl_step (by decide) (op_extract rfl rfl ?_)
          | refine rl_step (by decide) (op_add rfl rfl (by omega) ?_)
          | refine rl_step (by decide) (op_sub rfl rfl (by omega) ?_)
          | refine rl_step (by decide) (op_neg rfl (by omega) ?_)))
      refine run_ret1 Try.func45 rfl rfl ?_
      exact ⟨by rw [decide_eq_false hsq, Bool.false_and], (hs1.trans hs2).bel⟩

end Go.Proofs.Ytocoinkhbjlbhaa
