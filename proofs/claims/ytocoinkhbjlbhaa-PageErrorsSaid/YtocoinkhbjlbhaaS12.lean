/-
  Walk: the law of full pages.
-/
import Derived.Test.YtocoinkhbjlbhaaS11
import Derived.Test.YtocoinkhbjlbhaaP27b
namespace Go.Proofs.Ytocoinkhbjlbhaa
open Go Go.RowKit

theorem OKB.range {body : List Line} {notes : List (List Line)} (h : OKB body notes) {i : Int} (hi : i ∈ refs body) : 0 ≤ i ∧ i < notes.length := by
  rw [h.rf] at hi
  obtain ⟨k, hk, rfl⟩ := List.mem_map.1 hi
  have := List.mem_range.1 hk
  omega

theorem sumR_succ (notes : List (List Line)) (body : List Line) (k : Nat) (hk : k < body.length) : sumR notes (body.take (k + 1)) = sumR notes (body.take k) + (body[k].notes.flatMap (noteAt notes)).length := by
  rw [List.take_succ_eq_append_getElem hk, ← notesOf_len, notesOf_append, List.length_append, notesOf_len]
  congr 1
  simp [notesOf, refs]

set_option maxHeartbeats 2000000 in
theorem greedy_w (M : Mut) (w : World) (vl : Value) (l : List Int) (n : Int) (hm : MB M w) (hl : SlBg M w vl l) (hI : I64 n) :
    CallsV Try.prog 8 [vl, .int .i64 n] w (fun u w' => u = .bool true ∧ Below w.heap.size w w') := by
  have hr := Rn.refl hm
  have ba := aro_bd n 97 (by omega)
  refine callsV_of_run Try.func8 rfl Try.ntmps8 (Nat.le_of_ble_eq_true rfl) ?_
  (repeat (first
      | refine run_seq ?_
      | refine run_region_l ?_
      | refine rl_nil ?_
      | refine rl_step (by decide) (op_move rfl ?_)
      | refine rl_step (by decide) (op_assign rfl ?_)
      | refine run_block ?_
      | refine run_inBlock ?_
      | refine run_exit rfl ?_
      | refine run_skip ?_
      | refine run_label ?_
      | refine run_true rfl ?_
      | refine run_false rfl ?_
      | refine rl_yes rfl rfl ?_
      | refine rl_no rfl rfl rfl (by decide) ?_
      | refine rl_step (by decide) (op_pick_t rfl rfl ?_)
      | refine rl_step (by decide) (op_pick_f rfl rfl ?_)
      | refine rl_step (by decide) (op_lss rfl rfl ?_)
      | refine rl_step (by decide) (op_leq rfl rfl ?_)
      | refine rl_step (by decide) (op_gtr rfl rfl ?_)
      | refine rl_step (by decide) (op_geq rfl rfl ?_)
      | refine rl_step (by decide) (op_eql rfl rfl ?_)
      | refine rl_step (by decide) (op_neq rfl rfl ?_)
      | refine rl_step (by decide) (op_not rfl ?_)
      | refine rl_step (by decide) (op_min rfl rfl ?_)
      | refine rl_step (by decide) (op_max rfl rfl ?_)
      | refine rl_step (by decide) (op_extract rfl rfl ?_)
      | refine rl_step (by decide) (op_add rfl rfl (by omega) ?_)
      | refine rl_step (by decide) (op_sub rfl rfl (by omega) ?_)
      | refine rl_step (by decide) (op_neg rfl (by omega) ?_)))
  refine rl_step (by decide) (op_call ent17 rfl (linesG M _ _ _ hm hl) ?_)
  rintro _ w1 ⟨hbel, vb, vn, body, notes, rfl, hb, hn, hO⟩
  have hs := UpM.of_below (M := M) hbel
  replace hr := hr.up hs
  clear hs hbel
  (repeat (first
      | refine run_seq ?_
      | refine run_region_l ?_
      | refine rl_nil ?_
      | refine rl_step (by decide) (op_move rfl ?_)
      | refine rl_step (by decide) (op_assign rfl ?_)
      | refine run_block ?_
      | refine run_inBlock ?_
      | refine run_exit rfl ?_
      | refine run_skip ?_
      | refine run_label ?_
      | refine run_true rfl ?_
      | refine run_false rfl ?_
      | refine rl_yes rfl rfl ?_
      | refine rl_no rfl rfl rfl (by decide) ?_
      | refine rl_step (by decide) (op_pick_t rfl rfl ?_)
      | refine rl_step (by decide) (op_pick_f rfl rfl ?_)
      | refine rl_step (by decide) (op_lss rfl rfl ?_)
      | refine rl_step (by decide) (op_leq rfl rfl ?_)
      | refine rl_step (by decide) (op_gtr rfl rfl ?_)
      | refine rl_step (by decide) (op_geq rfl rfl ?_)
      | refine rl_step (by decide) (op_eql rfl rfl ?_)
      | refine rl_step (by decide) (op_neq rfl rfl ?_)
      | refine rl_step (by decide) (op_not rfl ?_)
      | refine rl_step (by decide) (op_min rfl rfl ?_)
      | refine rl_step (by decide) (op_max rfl rfl ?_)
      | refine rl_step (by decide) (op_extract rfl rfl ?_)
      | refine rl_step (by decide) (op_add rfl rfl (by omega) ?_)
      | refine rl_step (by decide) (op_sub rfl rfl (by omega) ?_)
      | refine rl_step (by decide) (op_neg rfl (by omega) ?_)))
  refine rl_step (by decide) (op_call ent19 rfl (height_c _ _ hI) ?_)
  rintro _ w2 ⟨rfl, rfl⟩
  (repeat (first
      | refine run_seq ?_
      | refine run_region_l ?_
      | refine rl_nil ?_
      | refine rl_step (by decide) (op_move rfl ?_)
      | refine rl_step (by decide) (op_assign rfl ?_)
      | refine run_block ?_
      | refine run_inBlock ?_
      | refine run_exit rfl ?_
      | refine run_skip ?_
      | refine run_label ?_
      | refine run_true rfl ?_
      | refine run_false rfl ?_
      | refine rl_yes rfl rfl ?_
      | refine rl_no rfl rfl rfl (by decide) ?_
      | refine rl_step (by decide) (op_pick_t rfl rfl ?_)
      | refine rl_step (by decide) (op_pick_f rfl rfl ?_)
      | refine rl_step (by decide) (op_lss rfl rfl ?_)
      | refine rl_step (by decide) (op_leq rfl rfl ?_)
      | refine rl_step (by decide) (op_gtr rfl rfl ?_)
      | refine rl_step (by decide) (op_geq rfl rfl ?_)
      | refine rl_step (by decide) (op_eql rfl rfl ?_)
      | refine rl_step (by decide) (op_neq rfl rfl ?_)
      | refine rl_step (by decide) (op_not rfl ?_)
      | refine rl_step (by decide) (op_min rfl rfl ?_)
      | refine rl_step (by decide) (op_max rfl rfl ?_)
      | refine rl_step (by decide) (op_extract rfl rfl ?_)
      | refine rl_step (by decide) (op_add rfl rfl (by omega) ?_)
      | refine rl_step (by decide) (op_sub rfl rfl (by omega) ?_)
      | refine rl_step (by decide) (op_neg rfl (by omega) ?_)))
  refine rl_step (by decide) (op_call ent18 rfl (set_ok M _ _ _ _ _ _ hr.mb hb hn hO (by omega)) ?_)
  rintro _ w3 ⟨hbel, vp, rfl, hp⟩
  have hs := UpM.of_below (M := M) hbel
  replace hr := hr.up hs
  replace hb := hb.mono hs.x
  replace hn := hn.mono hs.x
  clear hs hbel
  obtain ⟨o1, o2, o3, o4⟩ := set_order (4 + aro n 97) (by omega) notes (body.length + sumR notes body + 1) body [] (by simp)
  have hsum := ok_sum hO
  have hlb := hO.lb
  have hln := hO.ln
  rw [show setM (4 + aro n 97) notes (body.length + sumR notes body + 1) body [] = setAll (4 + aro n 97) body notes from rfl] at o1 o2 o3 o4
  have hgr := greedy_at (4 + aro n 97) (by omega) notes body _ rfl
  have hpl : (setAll (4 + aro n 97) body notes).length ≤ 2000 := by simp only [List.length_nil] at o3; omega
  have hN : ∀ i, atN (setAll (4 + aro n 97) body notes) i ≤ 1080 := fun i => by
    have := flat_take_le (fun p : Pg => p.notes) (setAll (4 + aro n 97) body notes) i
    rw [o2, List.nil_append, notesOf_len] at this
    unfold atN
    omega
  generalize setAll (4 + aro n 97) body notes = ps at hp o4 hgr hpl hN
  clear o1 o2 o3
  (repeat (first
      | refine run_seq ?_
      | refine run_region_l ?_
      | refine rl_nil ?_
      | refine rl_step (by decide) (op_move rfl ?_)
      | refine rl_step (by decide) (op_assign rfl ?_)
      | refine run_block ?_
      | refine run_inBlock ?_
      | refine run_exit rfl ?_
      | refine run_skip ?_
      | refine run_label ?_
      | refine run_true rfl ?_
      | refine run_false rfl ?_
      | refine rl_yes rfl rfl ?_
      | refine rl_no rfl rfl rfl (by decide) ?_
      | refine rl_step (by decide) (op_pick_t rfl rfl ?_)
      | refine rl_step (by decide) (op_pick_f rfl rfl ?_)
      | refine rl_step (by decide) (op_lss rfl rfl ?_)
      | refine rl_step (by decide) (op_leq rfl rfl ?_)
      | refine rl_step (by decide) (op_gtr rfl rfl ?_)
      | refine rl_step (by decide) (op_geq rfl rfl ?_)
      | refine rl_step (by decide) (op_eql rfl rfl ?_)
      | refine rl_step (by decide) (op_neq rfl rfl ?_)
      | refine rl_step (by decide) (op_not rfl ?_)
      | refine rl_step (by decide) (op_min rfl rfl ?_)
      | refine rl_step (by decide) (op_max rfl rfl ?_)
      | refine rl_step (by decide) (op_extract rfl rfl ?_)
      | refine rl_step (by decide) (op_add rfl rfl (by omega) ?_)
      | refine rl_step (by decide) (op_sub rfl rfl (by omega) ?_)
      | refine rl_step (by decide) (op_neg rfl (by omega) ?_)))
  refine (run_loop (α := Nat × Mut) (fun x => [(1, .int .i64 n), (5, vb), (6, vn), (7, vp), (9, .int .i64 (atB ps x.1)), (10, .int .i64 (sumR notes (body.take (atB ps x.1)))), (11, .int .i64 (atN ps x.1)), (12, .int .i64 x.1)])
    (fun x w' => x.1 ≤ ps.length ∧ Rn M w x.2 w' ∧ SlOf eLine x.2 w' vb body ∧ SlOf (eSl eLine) x.2 w' vn notes ∧ SlOf ePg x.2 w' vp ps) (fun x => ps.length - x.1) (0, M)
    ⟨Nat.zero_le _, hr, hb, hn, hp⟩ ?_).sub (by repeat (first | exact trivial | refine ⟨rfl, ?_⟩))
  clear hr hb hn hp hl
  rintro ⟨i, M1⟩ w4 ⟨hi, hr, hb, hn, hp⟩ ih
  simp only at hi hr hb hn hp ih
  try dsimp only
  (repeat (first
      | refine run_seq ?_
      | refine run_region_l ?_
      | refine rl_nil ?_
      | refine rl_step (by decide) (op_move rfl ?_)
      | refine rl_step (by decide) (op_assign rfl ?_)
      | refine run_block ?_
      | refine run_inBlock ?_
      | refine run_exit rfl ?_
      | refine run_skip ?_
      | refine run_label ?_
      | refine run_true rfl ?_
      | refine run_false rfl ?_
      | refine rl_yes rfl rfl ?_
      | refine rl_no rfl rfl rfl (by decide) ?_
      | refine rl_step (by decide) (op_pick_t rfl rfl ?_)
      | refine rl_step (by decide) (op_pick_f rfl rfl ?_)
      | refine rl_step (by decide) (op_lss rfl rfl ?_)
      | refine rl_step (by decide) (op_leq rfl rfl ?_)
      | refine rl_step (by decide) (op_gtr rfl rfl ?_)
      | refine rl_step (by decide) (op_geq rfl rfl ?_)
      | refine rl_step (by decide) (op_eql rfl rfl ?_)
      | refine rl_step (by decide) (op_neq rfl rfl ?_)
      | refine rl_step (by decide) (op_not rfl ?_)
      | refine rl_step (by decide) (op_min rfl rfl ?_)
      | refine rl_step (by decide) (op_max rfl rfl ?_)
      | refine rl_step (by decide) (op_extract rfl rfl ?_)
      | refine rl_step (by decide) (op_add rfl rfl (by omega) ?_)
      | refine rl_step (by decide) (op_sub rfl rfl (by omega) ?_)
      | refine rl_step (by decide) (op_neg rfl (by omega) ?_)))
  refine rl_step (by decide) (op_len uP rfl hp ?_)
  (repeat (first
      | refine run_seq ?_
      | refine run_region_l ?_
      | refine rl_nil ?_
      | refine rl_step (by decide) (op_move rfl ?_)
      | refine rl_step (by decide) (op_assign rfl ?_)
      | refine run_block ?_
      | refine run_inBlock ?_
      | refine run_exit rfl ?_
      | refine run_skip ?_
      | refine run_label ?_
      | refine run_true rfl ?_
      | refine run_false rfl ?_
      | refine rl_yes rfl rfl ?_
      | refine rl_no rfl rfl rfl (by decide) ?_
      | refine rl_step (by decide) (op_pick_t rfl rfl ?_)
      | refine rl_step (by decide) (op_pick_f rfl rfl ?_)
      | refine rl_step (by decide) (op_lss rfl rfl ?_)
      | refine rl_step (by decide) (op_leq rfl rfl ?_)
      | refine rl_step (by decide) (op_gtr rfl rfl ?_)
      | refine rl_step (by decide) (op_geq rfl rfl ?_)
      | refine rl_step (by decide) (op_eql rfl rfl ?_)
      | refine rl_step (by decide) (op_neq rfl rfl ?_)
      | refine rl_step (by decide) (op_not rfl ?_)
      | refine rl_step (by decide) (op_min rfl rfl ?_)
      | refine rl_step (by decide) (op_max rfl rfl ?_)
      | refine rl_step (by decide) (op_extract rfl rfl ?_)
      | refine rl_step (by decide) (op_add rfl rfl (by omega) ?_)
      | refine rl_step (by decide) (op_sub rfl rfl (by omega) ?_)
      | refine rl_step (by decide) (op_neg rfl (by omega) ?_)))
  refine run_if rfl (fun hlt => ?_) (fun hlt => ?_)
  rotate_left 1
  · (repeat (first
        | refine run_seq ?_
        | refine run_region_l ?_
        | refine rl_nil ?_
        | refine rl_step (by decide) (op_move rfl ?_)
        | refine rl_step (by decide) (op_assign rfl ?_)
        | refine run_block ?_
        | refine run_inBlock ?_
        | refine run_exit rfl ?_
        | refine run_skip ?_
        | refine run_label ?_
        | refine run_true rfl ?_
        | refine run_false rfl ?_
        | refine rl_yes rfl rfl ?_
        | refine rl_no rfl rfl rfl (by decide) ?_
        | refine rl_step (by decide) (op_pick_t rfl rfl ?_)
        | refine rl_step (by decide) (op_pick_f rfl rfl ?_)
        | refine rl_step (by decide) (op_lss rfl rfl ?_)
        | refine rl_step (by decide) (op_leq rfl rfl ?_)
        | refine rl_step (by decide) (op_gtr rfl rfl ?_)
        | refine rl_step (by decide) (op_geq rfl rfl ?_)
        | refine rl_step (by decide) (op_eql rfl rfl ?_)
        | refine rl_step (by decide) (op_neq rfl rfl ?_)
        | refine rl_step (by decide) (op_not rfl ?_)
        | refine rl_step (by decide) (op_min rfl rfl ?_)
        | refine rl_step (by decide) (op_max rfl rfl ?_)
        | refine rl_step (by decide) (op_extract rfl rfl ?_)
        | refine rl_step (by decide) (op_add rfl rfl (by omega) ?_)
        | refine rl_step (by decide) (op_sub rfl rfl (by omega) ?_)
        | refine rl_step (by decide) (op_neg rfl (by omega) ?_)))
    refine rl_step (by decide) (op_call ent22 rfl (lives_c M1 _ hr.mb) ?_)
    rintro _ w8 ⟨rfl, hbel⟩
    replace hr := hr.up (UpM.of_below (M := M1) hbel)
    (repeat (first
        | refine run_seq ?_
        | refine run_region_l ?_
        | refine rl_nil ?_
        | refine rl_step (by decide) (op_move rfl ?_)
        | refine rl_step (by decide) (op_assign rfl ?_)
        | refine run_block ?_
        | refine run_inBlock ?_
        | refine run_exit rfl ?_
        | refine run_skip ?_
        | refine run_label ?_
        | refine run_true rfl ?_
        | refine run_false rfl ?_
        | refine rl_yes rfl rfl ?_
        | refine rl_no rfl rfl rfl (by decide) ?_
        | refine rl_step (by decide) (op_pick_t rfl rfl ?_)
        | refine rl_step (by decide) (op_pick_f rfl rfl ?_)
        | refine rl_step (by decide) (op_lss rfl rfl ?_)
        | refine rl_step (by decide) (op_leq rfl rfl ?_)
        | refine rl_step (by decide) (op_gtr rfl rfl ?_)
        | refine rl_step (by decide) (op_geq rfl rfl ?_)
        | refine rl_step (by decide) (op_eql rfl rfl ?_)
        | refine rl_step (by decide) (op_neq rfl rfl ?_)
        | refine rl_step (by decide) (op_not rfl ?_)
        | refine rl_step (by decide) (op_min rfl rfl ?_)
        | refine rl_step (by decide) (op_max rfl rfl ?_)
        | refine rl_step (by decide) (op_extract rfl rfl ?_)
        | refine rl_step (by decide) (op_add rfl rfl (by omega) ?_)
        | refine rl_step (by decide) (op_sub rfl rfl (by omega) ?_)
        | refine rl_step (by decide) (op_neg rfl (by omega) ?_)))
    refine run_ret1 Try.func8 rfl rfl ?_
    exact ⟨rfl, hr.bel⟩
  have hlt1 : i + 1 < ps.length := by omega
  have hlt' : i < ps.length := by omega
  have hu := o4 ps[i] (List.getElem_mem hlt')
  obtain ⟨g1, g2, g3⟩ := hgr i hlt1
  have hB := atB_succ hlt'
  have hN' := atN_succ hlt'
  have hNb := hN (i + 1)
  have hroom : max (4 + aro n 97 - ps[i].body.length - ps[i].notes.length - min (ps[i].notes.length : Int) 1) 0 = 4 + aro n 97 - usedM ps[i] := by
    unfold usedM at hu ⊢
    omega
  (repeat (first
      | refine run_seq ?_
      | refine run_region_l ?_
      | refine rl_nil ?_
      | refine rl_step (by decide) (op_move rfl ?_)
      | refine rl_step (by decide) (op_assign rfl ?_)
      | refine run_block ?_
      | refine run_inBlock ?_
      | refine run_exit rfl ?_
      | refine run_skip ?_
      | refine run_label ?_
      | refine run_true rfl ?_
      | refine run_false rfl ?_
      | refine rl_yes rfl rfl ?_
      | refine rl_no rfl rfl rfl (by decide) ?_
      | refine rl_step (by decide) (op_pick_t rfl rfl ?_)
      | refine rl_step (by decide) (op_pick_f rfl rfl ?_)
      | refine rl_step (by decide) (op_lss rfl rfl ?_)
      | refine rl_step (by decide) (op_leq rfl rfl ?_)
      | refine rl_step (by decide) (op_gtr rfl rfl ?_)
      | refine rl_step (by decide) (op_geq rfl rfl ?_)
      | refine rl_step (by decide) (op_eql rfl rfl ?_)
      | refine rl_step (by decide) (op_neq rfl rfl ?_)
      | refine rl_step (by decide) (op_not rfl ?_)
      | refine rl_step (by decide) (op_min rfl rfl ?_)
      | refine rl_step (by decide) (op_max rfl rfl ?_)
      | refine rl_step (by decide) (op_extract rfl rfl ?_)
      | refine rl_step (by decide) (op_add rfl rfl (by omega) ?_)
      | refine rl_step (by decide) (op_sub rfl rfl (by omega) ?_)
      | refine rl_step (by decide) (op_neg rfl (by omega) ?_)))
  refine (run_loop (α := Nat) (fun x => [(1, .int .i64 n), (5, vb), (6, vn), (7, vp), (9, .int .i64 (atB ps i + x : Nat)), (10, .int .i64 (sumR notes (body.take (atB ps i + x)))), (11, .int .i64 (atN ps i)), (12, .int .i64 i), (13, .int .i64 x)])
    (fun x w' => x ≤ ps[i].body.length ∧ Rn M w M1 w' ∧ SlOf eLine M1 w' vb body ∧ SlOf (eSl eLine) M1 w' vn notes ∧ SlOf ePg M1 w' vp ps) (fun x => ps[i].body.length - x) 0
    ⟨Nat.zero_le _, hr, hb, hn, hp⟩ ?_).sub (by repeat (first | exact trivial | refine ⟨rfl, ?_⟩))
  clear hr hb hn hp
  rintro k w5 ⟨hk, hr, hb, hn, hp⟩ ih2
  try simp only at ih2
  try dsimp only
  have hle1 := sumR_take_le notes body (atB ps i + k)
  (repeat (first
      | refine run_seq ?_
      | refine run_region_l ?_
      | refine rl_nil ?_
      | refine rl_step (by decide) (op_move rfl ?_)
      | refine rl_step (by decide) (op_assign rfl ?_)
      | refine run_block ?_
      | refine run_inBlock ?_
      | refine run_exit rfl ?_
      | refine run_skip ?_
      | refine run_label ?_
      | refine run_true rfl ?_
      | refine run_false rfl ?_
      | refine rl_yes rfl rfl ?_
      | refine rl_no rfl rfl rfl (by decide) ?_
      | refine rl_step (by decide) (op_pick_t rfl rfl ?_)
      | refine rl_step (by decide) (op_pick_f rfl rfl ?_)
      | refine rl_step (by decide) (op_lss rfl rfl ?_)
      | refine rl_step (by decide) (op_leq rfl rfl ?_)
      | refine rl_step (by decide) (op_gtr rfl rfl ?_)
      | refine rl_step (by decide) (op_geq rfl rfl ?_)
      | refine rl_step (by decide) (op_eql rfl rfl ?_)
      | refine rl_step (by decide) (op_neq rfl rfl ?_)
      | refine rl_step (by decide) (op_not rfl ?_)
      | refine rl_step (by decide) (op_min rfl rfl ?_)
      | refine rl_step (by decide) (op_max rfl rfl ?_)
      | refine rl_step (by decide) (op_extract rfl rfl ?_)
      | refine rl_step (by decide) (op_add rfl rfl (by omega) ?_)
      | refine rl_step (by decide) (op_sub rfl rfl (by omega) ?_)
      | refine rl_step (by decide) (op_neg rfl (by omega) ?_)))
  refine rl_step (by decide) (op_indexAddr uP teP rfl rfl hp (by omega) ?_)
  intro ad _ he
  refine rl_step (by decide) (op_fieldAddr fdP3 rfl ?_)
  refine rl_step (by decide) (op_load teSL rfl he.pg.2.1 ?_)
  intro u hu2
  rw [eSl_V] at hu2
  refine rl_step (by decide) (op_len uL rfl hu2 ?_)
  clear hu2 he
  simp only [Int.toNat_natCast]
  (repeat (first
      | refine run_seq ?_
      | refine run_region_l ?_
      | refine rl_nil ?_
      | refine rl_step (by decide) (op_move rfl ?_)
      | refine rl_step (by decide) (op_assign rfl ?_)
      | refine run_block ?_
      | refine run_inBlock ?_
      | refine run_exit rfl ?_
      | refine run_skip ?_
      | refine run_label ?_
      | refine run_true rfl ?_
      | refine run_false rfl ?_
      | refine rl_yes rfl rfl ?_
      | refine rl_no rfl rfl rfl (by decide) ?_
      | refine rl_step (by decide) (op_pick_t rfl rfl ?_)
      | refine rl_step (by decide) (op_pick_f rfl rfl ?_)
      | refine rl_step (by decide) (op_lss rfl rfl ?_)
      | refine rl_step (by decide) (op_leq rfl rfl ?_)
      | refine rl_step (by decide) (op_gtr rfl rfl ?_)
      | refine rl_step (by decide) (op_geq rfl rfl ?_)
      | refine rl_step (by decide) (op_eql rfl rfl ?_)
      | refine rl_step (by decide) (op_neq rfl rfl ?_)
      | refine rl_step (by decide) (op_not rfl ?_)
      | refine rl_step (by decide) (op_min rfl rfl ?_)
      | refine rl_step (by decide) (op_max rfl rfl ?_)
      | refine rl_step (by decide) (op_extract rfl rfl ?_)
      | refine rl_step (by decide) (op_add rfl rfl (by omega) ?_)
      | refine rl_step (by decide) (op_sub rfl rfl (by omega) ?_)
      | refine rl_step (by decide) (op_neg rfl (by omega) ?_)))
  refine run_if rfl (fun hkl => ?_) (fun hkl => ?_)
  · have hkl' : k < ps[i].body.length := by omega
    have hal : atB ps i + k < body.length := by omega
    (repeat (first
        | refine run_seq ?_
        | refine run_region_l ?_
        | refine rl_nil ?_
        | refine rl_step (by decide) (op_move rfl ?_)
        | refine rl_step (by decide) (op_assign rfl ?_)
        | refine run_block ?_
        | refine run_inBlock ?_
        | refine run_exit rfl ?_
        | refine run_skip ?_
        | refine run_label ?_
        | refine run_true rfl ?_
        | refine run_false rfl ?_
        | refine rl_yes rfl rfl ?_
        | refine rl_no rfl rfl rfl (by decide) ?_
        | refine rl_step (by decide) (op_pick_t rfl rfl ?_)
        | refine rl_step (by decide) (op_pick_f rfl rfl ?_)
        | refine rl_step (by decide) (op_lss rfl rfl ?_)
        | refine rl_step (by decide) (op_leq rfl rfl ?_)
        | refine rl_step (by decide) (op_gtr rfl rfl ?_)
        | refine rl_step (by decide) (op_geq rfl rfl ?_)
        | refine rl_step (by decide) (op_eql rfl rfl ?_)
        | refine rl_step (by decide) (op_neq rfl rfl ?_)
        | refine rl_step (by decide) (op_not rfl ?_)
        | refine rl_step (by decide) (op_min rfl rfl ?_)
        | refine rl_step (by decide) (op_max rfl rfl ?_)
        | refine rl_step (by decide) (op_extract rfl rfl ?_)
        | refine rl_step (by decide) (op_add rfl rfl (by omega) ?_)
        | refine rl_step (by decide) (op_sub rfl rfl (by omega) ?_)
        | refine rl_step (by decide) (op_neg rfl (by omega) ?_)))
    refine rl_step (by decide) (op_len uL rfl hb ?_)
    (repeat (first
        | refine run_seq ?_
        | refine run_region_l ?_
        | refine rl_nil ?_
        | refine rl_step (by decide) (op_move rfl ?_)
        | refine rl_step (by decide) (op_assign rfl ?_)
        | refine run_block ?_
        | refine run_inBlock ?_
        | refine run_exit rfl ?_
        | refine run_skip ?_
        | refine run_label ?_
        | refine run_true rfl ?_
        | refine run_false rfl ?_
        | refine rl_yes rfl rfl ?_
        | refine rl_no rfl rfl rfl (by decide) ?_
        | refine rl_step (by decide) (op_pick_t rfl rfl ?_)
        | refine rl_step (by decide) (op_pick_f rfl rfl ?_)
        | refine rl_step (by decide) (op_lss rfl rfl ?_)
        | refine rl_step (by decide) (op_leq rfl rfl ?_)
        | refine rl_step (by decide) (op_gtr rfl rfl ?_)
        | refine rl_step (by decide) (op_geq rfl rfl ?_)
        | refine rl_step (by decide) (op_eql rfl rfl ?_)
        | refine rl_step (by decide) (op_neq rfl rfl ?_)
        | refine rl_step (by decide) (op_not rfl ?_)
        | refine rl_step (by decide) (op_min rfl rfl ?_)
        | refine rl_step (by decide) (op_max rfl rfl ?_)
        | refine rl_step (by decide) (op_extract rfl rfl ?_)
        | refine rl_step (by decide) (op_add rfl rfl (by omega) ?_)
        | refine rl_step (by decide) (op_sub rfl rfl (by omega) ?_)
        | refine rl_step (by decide) (op_neg rfl (by omega) ?_)))
    refine run_if rfl (fun hc => absurd hc (by omega)) (fun _ => ?_)
    (repeat (first
        | refine run_seq ?_
        | refine run_region_l ?_
        | refine rl_nil ?_
        | refine rl_step (by decide) (op_move rfl ?_)
        | refine rl_step (by decide) (op_assign rfl ?_)
        | refine run_block ?_
        | refine run_inBlock ?_
        | refine run_exit rfl ?_
        | refine run_skip ?_
        | refine run_label ?_
        | refine run_true rfl ?_
        | refine run_false rfl ?_
        | refine rl_yes rfl rfl ?_
        | refine rl_no rfl rfl rfl (by decide) ?_
        | refine rl_step (by decide) (op_pick_t rfl rfl ?_)
        | refine rl_step (by decide) (op_pick_f rfl rfl ?_)
        | refine rl_step (by decide) (op_lss rfl rfl ?_)
        | refine rl_step (by decide) (op_leq rfl rfl ?_)
        | refine rl_step (by decide) (op_gtr rfl rfl ?_)
        | refine rl_step (by decide) (op_geq rfl rfl ?_)
        | refine rl_step (by decide) (op_eql rfl rfl ?_)
        | refine rl_step (by decide) (op_neq rfl rfl ?_)
        | refine rl_step (by decide) (op_not rfl ?_)
        | refine rl_step (by decide) (op_min rfl rfl ?_)
        | refine rl_step (by decide) (op_max rfl rfl ?_)
        | refine rl_step (by decide) (op_extract rfl rfl ?_)
        | refine rl_step (by decide) (op_add rfl rfl (by omega) ?_)
        | refine rl_step (by decide) (op_sub rfl rfl (by omega) ?_)
        | refine rl_step (by decide) (op_neg rfl (by omega) ?_)))
    refine (run_loop (α := Nat) (fun x => [(1, .int .i64 n), (5, vb), (6, vn), (7, vp), (9, .int .i64 (atB ps i + k : Nat)), (10, .int .i64 (sumR notes (body.take (atB ps i + k)) + (((body[atB ps i + k]).notes.take x).flatMap (noteAt notes)).length : Nat)), (11, .int .i64 (atN ps i)), (12, .int .i64 i), (13, .int .i64 k), (14, .int .i64 x)])
      (fun x w' => x ≤ (body[atB ps i + k]).notes.length ∧ Rn M w M1 w' ∧ SlOf eLine M1 w' vb body ∧ SlOf (eSl eLine) M1 w' vn notes ∧ SlOf ePg M1 w' vp ps) (fun x => (body[atB ps i + k]).notes.length - x) 0
      ⟨Nat.zero_le _, hr, hb, hn, hp⟩ ?_).sub (by repeat (first | exact trivial | refine ⟨rfl, ?_⟩))
    clear hr hb hn hp
    rintro m w6 ⟨hmm, hr, hb, hn, hp⟩ ih3
    try simp only at ih3
    try dsimp only
    have hS := sumR_succ notes body _ hal
    have hle2 := sumR_take_le notes body (atB ps i + k + 1)
    (repeat (first
        | refine run_seq ?_
        | refine run_region_l ?_
        | refine rl_nil ?_
        | refine rl_step (by decide) (op_move rfl ?_)
        | refine rl_step (by decide) (op_assign rfl ?_)
        | refine run_block ?_
        | refine run_inBlock ?_
        | refine run_exit rfl ?_
        | refine run_skip ?_
        | refine run_label ?_
        | refine run_true rfl ?_
        | refine run_false rfl ?_
        | refine rl_yes rfl rfl ?_
        | refine rl_no rfl rfl rfl (by decide) ?_
        | refine rl_step (by decide) (op_pick_t rfl rfl ?_)
        | refine rl_step (by decide) (op_pick_f rfl rfl ?_)
        | refine rl_step (by decide) (op_lss rfl rfl ?_)
        | refine rl_step (by decide) (op_leq rfl rfl ?_)
        | refine rl_step (by decide) (op_gtr rfl rfl ?_)
        | refine rl_step (by decide) (op_geq rfl rfl ?_)
        | refine rl_step (by decide) (op_eql rfl rfl ?_)
        | refine rl_step (by decide) (op_neq rfl rfl ?_)
        | refine rl_step (by decide) (op_not rfl ?_)
        | refine rl_step (by decide) (op_min rfl rfl ?_)
        | refine rl_step (by decide) (op_max rfl rfl ?_)
        | refine rl_step (by decide) (op_extract rfl rfl ?_)
        | refine rl_step (by decide) (op_add rfl rfl (by omega) ?_)
        | refine rl_step (by decide) (op_sub rfl rfl (by omega) ?_)
        | refine rl_step (by decide) (op_neg rfl (by omega) ?_)))
    refine rl_step (by decide) (op_indexAddr uL teL rfl rfl hb (by omega) ?_)
    intro ad _ he
    refine rl_step (by decide) (op_fieldAddr fdL3 rfl ?_)
    refine rl_step (by decide) (op_load teSI rfl he.line.2.2.2 ?_)
    intro u hu2
    rw [eSl_V] at hu2
    refine rl_step (by decide) (op_len uI rfl hu2 ?_)
    have hil := i_len hu2
    clear hu2 he
    simp only [Int.toNat_natCast] at hil ⊢
    (repeat (first
        | refine run_seq ?_
        | refine run_region_l ?_
        | refine rl_nil ?_
        | refine rl_step (by decide) (op_move rfl ?_)
        | refine rl_step (by decide) (op_assign rfl ?_)
        | refine run_block ?_
        | refine run_inBlock ?_
        | refine run_exit rfl ?_
        | refine run_skip ?_
        | refine run_label ?_
        | refine run_true rfl ?_
        | refine run_false rfl ?_
        | refine rl_yes rfl rfl ?_
        | refine rl_no rfl rfl rfl (by decide) ?_
        | refine rl_step (by decide) (op_pick_t rfl rfl ?_)
        | refine rl_step (by decide) (op_pick_f rfl rfl ?_)
        | refine rl_step (by decide) (op_lss rfl rfl ?_)
        | refine rl_step (by decide) (op_leq rfl rfl ?_)
        | refine rl_step (by decide) (op_gtr rfl rfl ?_)
        | refine rl_step (by decide) (op_geq rfl rfl ?_)
        | refine rl_step (by decide) (op_eql rfl rfl ?_)
        | refine rl_step (by decide) (op_neq rfl rfl ?_)
        | refine rl_step (by decide) (op_not rfl ?_)
        | refine rl_step (by decide) (op_min rfl rfl ?_)
        | refine rl_step (by decide) (op_max rfl rfl ?_)
        | refine rl_step (by decide) (op_extract rfl rfl ?_)
        | refine rl_step (by decide) (op_add rfl rfl (by omega) ?_)
        | refine rl_step (by decide) (op_sub rfl rfl (by omega) ?_)
        | refine rl_step (by decide) (op_neg rfl (by omega) ?_)))
    refine run_if rfl (fun hml => ?_) (fun hml => ?_)
    · have hml' : m < (body[atB ps i + k]).notes.length := by omega
      have hrg := hO.range (mem_refs hal (List.getElem_mem hml'))
      have hf1 := flat_take (noteAt notes) _ m hml'
      have hf2 := flat_take_le (noteAt notes) (body[atB ps i + k]).notes (m + 1)
      have hf3 : (((body[atB ps i + k]).notes.take (m + 1)).flatMap (noteAt notes)).length = (((body[atB ps i + k]).notes.take m).flatMap (noteAt notes)).length + (noteAt notes (body[atB ps i + k]).notes[m]).length := by rw [hf1, List.length_append]
      have hng := noteAt_get (notes := notes) (i := (body[atB ps i + k]).notes[m]) (by omega)
      (repeat (first
          | refine run_seq ?_
          | refine run_region_l ?_
          | refine rl_nil ?_
          | refine rl_step (by decide) (op_move rfl ?_)
          | refine rl_step (by decide) (op_assign rfl ?_)
          | refine run_block ?_
          | refine run_inBlock ?_
          | refine run_exit rfl ?_
          | refine run_skip ?_
          | refine run_label ?_
          | refine run_true rfl ?_
          | refine run_false rfl ?_
          | refine rl_yes rfl rfl ?_
          | refine rl_no rfl rfl rfl (by decide) ?_
          | refine rl_step (by decide) (op_pick_t rfl rfl ?_)
          | refine rl_step (by decide) (op_pick_f rfl rfl ?_)
          | refine rl_step (by decide) (op_lss rfl rfl ?_)
          | refine rl_step (by decide) (op_leq rfl rfl ?_)
          | refine rl_step (by decide) (op_gtr rfl rfl ?_)
          | refine rl_step (by decide) (op_geq rfl rfl ?_)
          | refine rl_step (by decide) (op_eql rfl rfl ?_)
          | refine rl_step (by decide) (op_neq rfl rfl ?_)
          | refine rl_step (by decide) (op_not rfl ?_)
          | refine rl_step (by decide) (op_min rfl rfl ?_)
          | refine rl_step (by decide) (op_max rfl rfl ?_)
          | refine rl_step (by decide) (op_extract rfl rfl ?_)
          | refine rl_step (by decide) (op_add rfl rfl (by omega) ?_)
          | refine rl_step (by decide) (op_sub rfl rfl (by omega) ?_)
          | refine rl_step (by decide) (op_neg rfl (by omega) ?_)))
      refine rl_step (by decide) (op_indexAddr uL teL rfl rfl hb (by omega) ?_)
      intro ad _ he
      refine rl_step (by decide) (op_fieldAddr fdL3 rfl ?_)
      refine rl_step (by decide) (op_load teSI rfl he.line.2.2.2 ?_)
      intro u hu2
      rw [eSl_V] at hu2
      (repeat (first
          | refine run_seq ?_
          | refine run_region_l ?_
          | refine rl_nil ?_
          | refine rl_step (by decide) (op_move rfl ?_)
          | refine rl_step (by decide) (op_assign rfl ?_)
          | refine run_block ?_
          | refine run_inBlock ?_
          | refine run_exit rfl ?_
          | refine run_skip ?_
          | refine run_label ?_
          | refine run_true rfl ?_
          | refine run_false rfl ?_
          | refine rl_yes rfl rfl ?_
          | refine rl_no rfl rfl rfl (by decide) ?_
          | refine rl_step (by decide) (op_pick_t rfl rfl ?_)
          | refine rl_step (by decide) (op_pick_f rfl rfl ?_)
          | refine rl_step (by decide) (op_lss rfl rfl ?_)
          | refine rl_step (by decide) (op_leq rfl rfl ?_)
          | refine rl_step (by decide) (op_gtr rfl rfl ?_)
          | refine rl_step (by decide) (op_geq rfl rfl ?_)
          | refine rl_step (by decide) (op_eql rfl rfl ?_)
          | refine rl_step (by decide) (op_neq rfl rfl ?_)
          | refine rl_step (by decide) (op_not rfl ?_)
          | refine rl_step (by decide) (op_min rfl rfl ?_)
          | refine rl_step (by decide) (op_max rfl rfl ?_)
          | refine rl_step (by decide) (op_extract rfl rfl ?_)
          | refine rl_step (by decide) (op_add rfl rfl (by omega) ?_)
          | refine rl_step (by decide) (op_sub rfl rfl (by omega) ?_)
          | refine rl_step (by decide) (op_neg rfl (by omega) ?_)))
      refine rl_step (by decide) (op_indexAddr uI teI rfl rfl hu2 (by simp only [Int.toNat_natCast]; omega) ?_)
      intro ad2 _ he2
      refine rl_step (by decide) (op_load teI rfl he2 ?_)
      intro u2 hu3
      obtain ⟨rfl, _⟩ := eI_V.1 hu3
      refine rl_step (by decide) (op_indexAddr uLL teSL rfl rfl hn (by simpa only [Int.toNat_natCast] using hrg) ?_)
      intro ad3 _ he3
      refine rl_step (by decide) (op_load teSL rfl he3 ?_)
      intro u3 hu4
      rw [eSl_V] at hu4
      refine rl_step (by decide) (op_len uL rfl hu4 ?_)
      clear hu4 he3 hu3 he2 hu2 he
      simp only [Int.toNat_natCast]
      rw [← hng]
      (repeat (first
          | refine run_seq ?_
          | refine run_region_l ?_
          | refine rl_nil ?_
          | refine rl_step (by decide) (op_move rfl ?_)
          | refine rl_step (by decide) (op_assign rfl ?_)
          | refine run_block ?_
          | refine run_inBlock ?_
          | refine run_exit rfl ?_
          | refine run_skip ?_
          | refine run_label ?_
          | refine run_true rfl ?_
          | refine run_false rfl ?_
          | refine rl_yes rfl rfl ?_
          | refine rl_no rfl rfl rfl (by decide) ?_
          | refine rl_step (by decide) (op_pick_t rfl rfl ?_)
          | refine rl_step (by decide) (op_pick_f rfl rfl ?_)
          | refine rl_step (by decide) (op_lss rfl rfl ?_)
          | refine rl_step (by decide) (op_leq rfl rfl ?_)
          | refine rl_step (by decide) (op_gtr rfl rfl ?_)
          | refine rl_step (by decide) (op_geq rfl rfl ?_)
          | refine rl_step (by decide) (op_eql rfl rfl ?_)
          | refine rl_step (by decide) (op_neq rfl rfl ?_)
          | refine rl_step (by decide) (op_not rfl ?_)
          | refine rl_step (by decide) (op_min rfl rfl ?_)
          | refine rl_step (by decide) (op_max rfl rfl ?_)
          | refine rl_step (by decide) (op_extract rfl rfl ?_)
          | refine rl_step (by decide) (op_add rfl rfl (by omega) ?_)
          | refine rl_step (by decide) (op_sub rfl rfl (by omega) ?_)
          | refine rl_step (by decide) (op_neg rfl (by omega) ?_)))
      refine (ih3 (m + 1) _ ⟨by omega, hr, hb, hn, hp⟩ (by omega)).sub ?_
      exact ⟨rfl, rfl, rfl, rfl, rfl, look_int rfl (by rw [hf3]; omega), rfl, rfl, rfl, look_int rfl (by omega), trivial⟩
    · have hme : m = (body[atB ps i + k]).notes.length := by omega
      subst hme
      (repeat (first
          | refine run_seq ?_
          | refine run_region_l ?_
          | refine rl_nil ?_
          | refine rl_step (by decide) (op_move rfl ?_)
          | refine rl_step (by decide) (op_assign rfl ?_)
          | refine run_block ?_
          | refine run_inBlock ?_
          | refine run_exit rfl ?_
          | refine run_skip ?_
          | refine run_label ?_
          | refine run_true rfl ?_
          | refine run_false rfl ?_
          | refine rl_yes rfl rfl ?_
          | refine rl_no rfl rfl rfl (by decide) ?_
          | refine rl_step (by decide) (op_pick_t rfl rfl ?_)
          | refine rl_step (by decide) (op_pick_f rfl rfl ?_)
          | refine rl_step (by decide) (op_lss rfl rfl ?_)
          | refine rl_step (by decide) (op_leq rfl rfl ?_)
          | refine rl_step (by decide) (op_gtr rfl rfl ?_)
          | refine rl_step (by decide) (op_geq rfl rfl ?_)
          | refine rl_step (by decide) (op_eql rfl rfl ?_)
          | refine rl_step (by decide) (op_neq rfl rfl ?_)
          | refine rl_step (by decide) (op_not rfl ?_)
          | refine rl_step (by decide) (op_min rfl rfl ?_)
          | refine rl_step (by decide) (op_max rfl rfl ?_)
          | refine rl_step (by decide) (op_extract rfl rfl ?_)
          | refine rl_step (by decide) (op_add rfl rfl (by omega) ?_)
          | refine rl_step (by decide) (op_sub rfl rfl (by omega) ?_)
          | refine rl_step (by decide) (op_neg rfl (by omega) ?_)))
      refine (ih2 (k + 1) _ ⟨by omega, hr, hb, hn, hp⟩ (by omega)).sub ?_
      rw [← Nat.add_assoc]
      exact ⟨rfl, rfl, rfl, rfl, look_int rfl (by omega), look_int rfl (by rw [hS, List.take_length]), rfl, rfl, look_int rfl (by omega), trivial⟩
  · have hke : k = ps[i].body.length := by omega
    subst hke
    rw [← hB] at hle1 ⊢
    clear ih2
    (repeat (first
        | refine run_seq ?_
        | refine run_region_l ?_
        | refine rl_nil ?_
        | refine rl_step (by decide) (op_move rfl ?_)
        | refine rl_step (by decide) (op_assign rfl ?_)
        | refine run_block ?_
        | refine run_inBlock ?_
        | refine run_exit rfl ?_
        | refine run_skip ?_
        | refine run_label ?_
        | refine run_true rfl ?_
        | refine run_false rfl ?_
        | refine rl_yes rfl rfl ?_
        | refine rl_no rfl rfl rfl (by decide) ?_
        | refine rl_step (by decide) (op_pick_t rfl rfl ?_)
        | refine rl_step (by decide) (op_pick_f rfl rfl ?_)
        | refine rl_step (by decide) (op_lss rfl rfl ?_)
        | refine rl_step (by decide) (op_leq rfl rfl ?_)
        | refine rl_step (by decide) (op_gtr rfl rfl ?_)
        | refine rl_step (by decide) (op_geq rfl rfl ?_)
        | refine rl_step (by decide) (op_eql rfl rfl ?_)
        | refine rl_step (by decide) (op_neq rfl rfl ?_)
        | refine rl_step (by decide) (op_not rfl ?_)
        | refine rl_step (by decide) (op_min rfl rfl ?_)
        | refine rl_step (by decide) (op_max rfl rfl ?_)
        | refine rl_step (by decide) (op_extract rfl rfl ?_)
        | refine rl_step (by decide) (op_add rfl rfl (by omega) ?_)
        | refine rl_step (by decide) (op_sub rfl rfl (by omega) ?_)
        | refine rl_step (by decide) (op_neg rfl (by omega) ?_)))
    refine rl_step (by decide) (op_indexAddr uP teP rfl rfl hp (by omega) ?_)
    intro ad _ he
    refine rl_step (by decide) (op_fieldAddr fdP4 rfl ?_)
    refine rl_step (by decide) (op_load teSL rfl he.pg.2.2 ?_)
    intro u hu2
    rw [eSl_V] at hu2
    refine rl_step (by decide) (op_len uL rfl hu2 ?_)
    clear hu2 he
    simp only [Int.toNat_natCast]
    (repeat (first
        | refine run_seq ?_
        | refine run_region_l ?_
        | refine rl_nil ?_
        | refine rl_step (by decide) (op_move rfl ?_)
        | refine rl_step (by decide) (op_assign rfl ?_)
        | refine run_block ?_
        | refine run_inBlock ?_
        | refine run_exit rfl ?_
        | refine run_skip ?_
        | refine run_label ?_
        | refine run_true rfl ?_
        | refine run_false rfl ?_
        | refine rl_yes rfl rfl ?_
        | refine rl_no rfl rfl rfl (by decide) ?_
        | refine rl_step (by decide) (op_pick_t rfl rfl ?_)
        | refine rl_step (by decide) (op_pick_f rfl rfl ?_)
        | refine rl_step (by decide) (op_lss rfl rfl ?_)
        | refine rl_step (by decide) (op_leq rfl rfl ?_)
        | refine rl_step (by decide) (op_gtr rfl rfl ?_)
        | refine rl_step (by decide) (op_geq rfl rfl ?_)
        | refine rl_step (by decide) (op_eql rfl rfl ?_)
        | refine rl_step (by decide) (op_neq rfl rfl ?_)
        | refine rl_step (by decide) (op_not rfl ?_)
        | refine rl_step (by decide) (op_min rfl rfl ?_)
        | refine rl_step (by decide) (op_max rfl rfl ?_)
        | refine rl_step (by decide) (op_extract rfl rfl ?_)
        | refine rl_step (by decide) (op_add rfl rfl (by omega) ?_)
        | refine rl_step (by decide) (op_sub rfl rfl (by omega) ?_)
        | refine rl_step (by decide) (op_neg rfl (by omega) ?_)))
    refine Run.sub (fr' := [(1, .int .i64 n), (5, vb), (6, vn), (7, vp), (9, .int .i64 (atB ps (i + 1))), (10, .int .i64 (sumR notes (body.take (atB ps (i + 1))))), (11, .int .i64 (atN ps (i + 1))), (12, .int .i64 i)]) ?_ ⟨rfl, rfl, rfl, rfl, rfl, rfl, look_int rfl (by omega), rfl, trivial⟩
    refine region_dr (M := M1) 7 1 [] mixed rfl (by kernel_rfl) (fun w1 hs1 => ?_)
    replace hb := hb.mono hs1.x
    replace hn := hn.mono hs1.x
    replace hp := hp.mono hs1.x
    replace hr := hr.up hs1
    clear hs1
    refine dr_cons (isv vp) (by decide) (mono_isv _) (ob0 rfl fun M w' hs2 => ?_) ?_
    · exact opg (op_move rfl ⟨_, UpM.refl _ _, rfl⟩)
    refine dr_cons (isv (.int .i64 i)) (by decide) (mono_isv _) (ob0 rfl fun M w' hs2 => ?_) ?_
    · exact opg (op_move rfl ⟨_, UpM.refl _ _, rfl⟩)
    refine dr_cons (isPtr ePg ps[i]) (by decide) (mono_isPtr _ _) (ob2 rfl fun M w' hs2 v1 k1 v2 k2 => ?_) ?_
    · cases k1; cases k2; exact opg (op_indexAddr uP teP rfl rfl (hp.mono hs2.x) (by omega) fun ad hn he => ⟨_, UpM.refl _ _, ad, rfl, he⟩)
    refine dr_cons (isV ePg ps[i]) (by decide) (mono_isV _ _) (ob1 rfl fun M w' hs2 v1 k1 => ?_) ?_
    · obtain ⟨ad1, rfl, he1⟩ := k1; exact opg (op_load teP rfl he1 fun u hu => ⟨_, UpM.refl _ _, hu⟩)
    refine dr_cons (isv (.int .i64 n)) (by decide) (mono_isv _) (ob0 rfl fun M w' hs2 => ?_) ?_
    · exact opg (op_move rfl ⟨_, UpM.refl _ _, rfl⟩)
    refine dr_cons (isv (.int .i64 ((4 + aro n 97)))) (by decide) (mono_isv _) (ob1 rfl fun M w' hs2 v1 k1 => ?_) ?_
    · cases k1; exact opg (op_call ent19 rfl (height_c _ _ hI) fun u w2 hu => ⟨M, by rw [hu.2]; exact UpM.refl _ _, hu.1⟩)
    refine dr_cons (isv (.int .i64 ((4 + aro n 97 - usedM ps[i])))) (by decide) (mono_isv _) (ob2 rfl fun M w' hs2 v1 k1 v2 k2 => ?_) ?_
    · cases k2
      refine opg (op_call ent25 rfl (room_p _ _ _ _ _ (hs2.mb hr.mb) k1 (by omega)) fun u w2 hu => ⟨_, UpM.of_below hu.2, ?_⟩)
      rw [hu.1]
      exact congrArg (fun z : Int => Value.int .i64 z) hroom
    refine dr_nil rfl (fun M4 w6 val hs2 hall => ?_)
    obtain ⟨h93, _⟩ := hall
    have e93 : val 93 = _ := h93
    replace hb := hb.mono hs2.x
    replace hn := hn.mono hs2.x
    replace hp := hp.mono hs2.x
    replace hr := hr.up hs2
    refine RT.sub (fr' := [(1, .int .i64 n), (5, vb), (6, vn), (7, vp), (9, .int .i64 (atB ps (i + 1))), (10, .int .i64 (sumR notes (body.take (atB ps (i + 1))))), (11, .int .i64 (atN ps (i + 1))), (12, .int .i64 i), (93, val 93)]) ?_ (by repeat (first | exact trivial | refine ⟨rfl, ?_⟩))
    rw [e93]
    clear hs2 h93 e93
    refine rt_one (i := 7) (by kernel_rfl) rfl (by decide) (op_assign rfl ?_)
    refine rt_nil (by kernel_rfl) ?_
    (repeat (first
        | refine run_seq ?_
        | refine run_region_l ?_
        | refine rl_nil ?_
        | refine rl_step (by decide) (op_move rfl ?_)
        | refine rl_step (by decide) (op_assign rfl ?_)
        | refine run_block ?_
        | refine run_inBlock ?_
        | refine run_exit rfl ?_
        | refine run_skip ?_
        | refine run_label ?_
        | refine run_true rfl ?_
        | refine run_false rfl ?_
        | refine rl_yes rfl rfl ?_
        | refine rl_no rfl rfl rfl (by decide) ?_
        | refine rl_step (by decide) (op_pick_t rfl rfl ?_)
        | refine rl_step (by decide) (op_pick_f rfl rfl ?_)
        | refine rl_step (by decide) (op_lss rfl rfl ?_)
        | refine rl_step (by decide) (op_leq rfl rfl ?_)
        | refine rl_step (by decide) (op_gtr rfl rfl ?_)
        | refine rl_step (by decide) (op_geq rfl rfl ?_)
        | refine rl_step (by decide) (op_eql rfl rfl ?_)
        | refine rl_step (by decide) (op_neq rfl rfl ?_)
        | refine rl_step (by decide) (op_not rfl ?_)
        | refine rl_step (by decide) (op_min rfl rfl ?_)
        | refine rl_step (by decide) (op_max rfl rfl ?_)
        | refine rl_step (by decide) (op_extract rfl rfl ?_)
        | refine rl_step (by decide) (op_add rfl rfl (by omega) ?_)
        | refine rl_step (by decide) (op_sub rfl rfl (by omega) ?_)
        | refine rl_step (by decide) (op_neg rfl (by omega) ?_)))
    refine run_if rfl (fun hd => ?_) (fun hd => ?_)
    · (repeat (first
          | refine run_seq ?_
          | refine run_region_l ?_
          | refine rl_nil ?_
          | refine rl_step (by decide) (op_move rfl ?_)
          | refine rl_step (by decide) (op_assign rfl ?_)
          | refine run_block ?_
          | refine run_inBlock ?_
          | refine run_exit rfl ?_
          | refine run_skip ?_
          | refine run_label ?_
          | refine run_true rfl ?_
          | refine run_false rfl ?_
          | refine rl_yes rfl rfl ?_
          | refine rl_no rfl rfl rfl (by decide) ?_
          | refine rl_step (by decide) (op_pick_t rfl rfl ?_)
          | refine rl_step (by decide) (op_pick_f rfl rfl ?_)
          | refine rl_step (by decide) (op_lss rfl rfl ?_)
          | refine rl_step (by decide) (op_leq rfl rfl ?_)
          | refine rl_step (by decide) (op_gtr rfl rfl ?_)
          | refine rl_step (by decide) (op_geq rfl rfl ?_)
          | refine rl_step (by decide) (op_eql rfl rfl ?_)
          | refine rl_step (by decide) (op_neq rfl rfl ?_)
          | refine rl_step (by decide) (op_not rfl ?_)
          | refine rl_step (by decide) (op_min rfl rfl ?_)
          | refine rl_step (by decide) (op_max rfl rfl ?_)
          | refine rl_step (by decide) (op_extract rfl rfl ?_)
          | refine rl_step (by decide) (op_add rfl rfl (by omega) ?_)
          | refine rl_step (by decide) (op_sub rfl rfl (by omega) ?_)
          | refine rl_step (by decide) (op_neg rfl (by omega) ?_)))
      refine run_if rfl (fun hc => absurd (g2 (by omega)) hc) (fun _ => ?_)
      (repeat (first
          | refine run_seq ?_
          | refine run_region_l ?_
          | refine rl_nil ?_
          | refine rl_step (by decide) (op_move rfl ?_)
          | refine rl_step (by decide) (op_assign rfl ?_)
          | refine run_block ?_
          | refine run_inBlock ?_
          | refine run_exit rfl ?_
          | refine run_skip ?_
          | refine run_label ?_
          | refine run_true rfl ?_
          | refine run_false rfl ?_
          | refine rl_yes rfl rfl ?_
          | refine rl_no rfl rfl rfl (by decide) ?_
          | refine rl_step (by decide) (op_pick_t rfl rfl ?_)
          | refine rl_step (by decide) (op_pick_f rfl rfl ?_)
          | refine rl_step (by decide) (op_lss rfl rfl ?_)
          | refine rl_step (by decide) (op_leq rfl rfl ?_)
          | refine rl_step (by decide) (op_gtr rfl rfl ?_)
          | refine rl_step (by decide) (op_geq rfl rfl ?_)
          | refine rl_step (by decide) (op_eql rfl rfl ?_)
          | refine rl_step (by decide) (op_neq rfl rfl ?_)
          | refine rl_step (by decide) (op_not rfl ?_)
          | refine rl_step (by decide) (op_min rfl rfl ?_)
          | refine rl_step (by decide) (op_max rfl rfl ?_)
          | refine rl_step (by decide) (op_extract rfl rfl ?_)
          | refine rl_step (by decide) (op_add rfl rfl (by omega) ?_)
          | refine rl_step (by decide) (op_sub rfl rfl (by omega) ?_)
          | refine rl_step (by decide) (op_neg rfl (by omega) ?_)))
      refine (ih (i + 1, M4) _ ⟨by simp only; omega, hr, hb, hn, hp⟩ (by simp only; omega)).sub (by repeat (first | exact trivial | refine ⟨rfl, ?_⟩))
    · obtain ⟨x, hx, hneed⟩ := g3 (by omega)
      have hxl : atB ps (i + 1) < body.length := by
        rcases Nat.lt_or_ge (atB ps (i + 1)) body.length with hh | hh
        · exact hh
        · rw [List.getElem?_eq_none hh] at hx
          cases hx
      rw [List.getElem?_eq_getElem hxl] at hx
      cases hx
      (repeat (first
          | refine run_seq ?_
          | refine run_region_l ?_
          | refine rl_nil ?_
          | refine rl_step (by decide) (op_move rfl ?_)
          | refine rl_step (by decide) (op_assign rfl ?_)
          | refine run_block ?_
          | refine run_inBlock ?_
          | refine run_exit rfl ?_
          | refine run_skip ?_
          | refine run_label ?_
          | refine run_true rfl ?_
          | refine run_false rfl ?_
          | refine rl_yes rfl rfl ?_
          | refine rl_no rfl rfl rfl (by decide) ?_
          | refine rl_step (by decide) (op_pick_t rfl rfl ?_)
          | refine rl_step (by decide) (op_pick_f rfl rfl ?_)
          | refine rl_step (by decide) (op_lss rfl rfl ?_)
          | refine rl_step (by decide) (op_leq rfl rfl ?_)
          | refine rl_step (by decide) (op_gtr rfl rfl ?_)
          | refine rl_step (by decide) (op_geq rfl rfl ?_)
          | refine rl_step (by decide) (op_eql rfl rfl ?_)
          | refine rl_step (by decide) (op_neq rfl rfl ?_)
          | refine rl_step (by decide) (op_not rfl ?_)
          | refine rl_step (by decide) (op_min rfl rfl ?_)
          | refine rl_step (by decide) (op_max rfl rfl ?_)
          | refine rl_step (by decide) (op_extract rfl rfl ?_)
          | refine rl_step (by decide) (op_add rfl rfl (by omega) ?_)
          | refine rl_step (by decide) (op_sub rfl rfl (by omega) ?_)
          | refine rl_step (by decide) (op_neg rfl (by omega) ?_)))
      refine rl_step (by decide) (op_len uL rfl hb ?_)
      (repeat (first
          | refine run_seq ?_
          | refine run_region_l ?_
          | refine rl_nil ?_
          | refine rl_step (by decide) (op_move rfl ?_)
          | refine rl_step (by decide) (op_assign rfl ?_)
          | refine run_block ?_
          | refine run_inBlock ?_
          | refine run_exit rfl ?_
          | refine run_skip ?_
          | refine run_label ?_
          | refine run_true rfl ?_
          | refine run_false rfl ?_
          | refine rl_yes rfl rfl ?_
          | refine rl_no rfl rfl rfl (by decide) ?_
          | refine rl_step (by decide) (op_pick_t rfl rfl ?_)
          | refine rl_step (by decide) (op_pick_f rfl rfl ?_)
          | refine rl_step (by decide) (op_lss rfl rfl ?_)
          | refine rl_step (by decide) (op_leq rfl rfl ?_)
          | refine rl_step (by decide) (op_gtr rfl rfl ?_)
          | refine rl_step (by decide) (op_geq rfl rfl ?_)
          | refine rl_step (by decide) (op_eql rfl rfl ?_)
          | refine rl_step (by decide) (op_neq rfl rfl ?_)
          | refine rl_step (by decide) (op_not rfl ?_)
          | refine rl_step (by decide) (op_min rfl rfl ?_)
          | refine rl_step (by decide) (op_max rfl rfl ?_)
          | refine rl_step (by decide) (op_extract rfl rfl ?_)
          | refine rl_step (by decide) (op_add rfl rfl (by omega) ?_)
          | refine rl_step (by decide) (op_sub rfl rfl (by omega) ?_)
          | refine rl_step (by decide) (op_neg rfl (by omega) ?_)))
      refine run_if rfl (fun hc => absurd hc (by omega)) (fun _ => ?_)
      (repeat (first
          | refine run_seq ?_
          | refine run_region_l ?_
          | refine rl_nil ?_
          | refine rl_step (by decide) (op_move rfl ?_)
          | refine rl_step (by decide) (op_assign rfl ?_)
          | refine run_block ?_
          | refine run_inBlock ?_
          | refine run_exit rfl ?_
          | refine run_skip ?_
          | refine run_label ?_
          | refine run_true rfl ?_
          | refine run_false rfl ?_
          | refine rl_yes rfl rfl ?_
          | refine rl_no rfl rfl rfl (by decide) ?_
          | refine rl_step (by decide) (op_pick_t rfl rfl ?_)
          | refine rl_step (by decide) (op_pick_f rfl rfl ?_)
          | refine rl_step (by decide) (op_lss rfl rfl ?_)
          | refine rl_step (by decide) (op_leq rfl rfl ?_)
          | refine rl_step (by decide) (op_gtr rfl rfl ?_)
          | refine rl_step (by decide) (op_geq rfl rfl ?_)
          | refine rl_step (by decide) (op_eql rfl rfl ?_)
          | refine rl_step (by decide) (op_neq rfl rfl ?_)
          | refine rl_step (by decide) (op_not rfl ?_)
          | refine rl_step (by decide) (op_min rfl rfl ?_)
          | refine rl_step (by decide) (op_max rfl rfl ?_)
          | refine rl_step (by decide) (op_extract rfl rfl ?_)
          | refine rl_step (by decide) (op_add rfl rfl (by omega) ?_)
          | refine rl_step (by decide) (op_sub rfl rfl (by omega) ?_)
          | refine rl_step (by decide) (op_neg rfl (by omega) ?_)))
      refine rl_step (by decide) (op_indexAddr uL teL rfl rfl hb (by omega) ?_)
      intro ad _ he
      refine rl_step (by decide) (op_fieldAddr fdL3 rfl ?_)
      refine rl_step (by decide) (op_load teSI rfl he.line.2.2.2 ?_)
      intro u hu2
      rw [eSl_V] at hu2
      refine rl_step (by decide) (op_len uI rfl hu2 ?_)
      clear hu2 he
      simp only [Int.toNat_natCast]
      (repeat (first
          | refine run_seq ?_
          | refine run_region_l ?_
          | refine rl_nil ?_
          | refine rl_step (by decide) (op_move rfl ?_)
          | refine rl_step (by decide) (op_assign rfl ?_)
          | refine run_block ?_
          | refine run_inBlock ?_
          | refine run_exit rfl ?_
          | refine run_skip ?_
          | refine run_label ?_
          | refine run_true rfl ?_
          | refine run_false rfl ?_
          | refine rl_yes rfl rfl ?_
          | refine rl_no rfl rfl rfl (by decide) ?_
          | refine rl_step (by decide) (op_pick_t rfl rfl ?_)
          | refine rl_step (by decide) (op_pick_f rfl rfl ?_)
          | refine rl_step (by decide) (op_lss rfl rfl ?_)
          | refine rl_step (by decide) (op_leq rfl rfl ?_)
          | refine rl_step (by decide) (op_gtr rfl rfl ?_)
          | refine rl_step (by decide) (op_geq rfl rfl ?_)
          | refine rl_step (by decide) (op_eql rfl rfl ?_)
          | refine rl_step (by decide) (op_neq rfl rfl ?_)
          | refine rl_step (by decide) (op_not rfl ?_)
          | refine rl_step (by decide) (op_min rfl rfl ?_)
          | refine rl_step (by decide) (op_max rfl rfl ?_)
          | refine rl_step (by decide) (op_extract rfl rfl ?_)
          | refine rl_step (by decide) (op_add rfl rfl (by omega) ?_)
          | refine rl_step (by decide) (op_sub rfl rfl (by omega) ?_)
          | refine rl_step (by decide) (op_neg rfl (by omega) ?_)))
      refine run_if rfl (fun hc => ?_) (fun hc => ?_)
      · rw [if_neg (fun h0 => by rw [h0] at hc; simp at hc)] at hneed
        (repeat (first
            | refine run_seq ?_
            | refine run_region_l ?_
            | refine rl_nil ?_
            | refine rl_step (by decide) (op_move rfl ?_)
            | refine rl_step (by decide) (op_assign rfl ?_)
            | refine run_block ?_
            | refine run_inBlock ?_
            | refine run_exit rfl ?_
            | refine run_skip ?_
            | refine run_label ?_
            | refine run_true rfl ?_
            | refine run_false rfl ?_
            | refine rl_yes rfl rfl ?_
            | refine rl_no rfl rfl rfl (by decide) ?_
            | refine rl_step (by decide) (op_pick_t rfl rfl ?_)
            | refine rl_step (by decide) (op_pick_f rfl rfl ?_)
            | refine rl_step (by decide) (op_lss rfl rfl ?_)
            | refine rl_step (by decide) (op_leq rfl rfl ?_)
            | refine rl_step (by decide) (op_gtr rfl rfl ?_)
            | refine rl_step (by decide) (op_geq rfl rfl ?_)
            | refine rl_step (by decide) (op_eql rfl rfl ?_)
            | refine rl_step (by decide) (op_neq rfl rfl ?_)
            | refine rl_step (by decide) (op_not rfl ?_)
            | refine rl_step (by decide) (op_min rfl rfl ?_)
            | refine rl_step (by decide) (op_max rfl rfl ?_)
            | refine rl_step (by decide) (op_extract rfl rfl ?_)
            | refine rl_step (by decide) (op_add rfl rfl (by omega) ?_)
            | refine rl_step (by decide) (op_sub rfl rfl (by omega) ?_)
            | refine rl_step (by decide) (op_neg rfl (by omega) ?_)))
        refine rl_step (by decide) (op_indexAddr uP teP rfl rfl hp (by omega) ?_)
        intro ad _ he
        refine rl_step (by decide) (op_fieldAddr fdP4 rfl ?_)
        refine rl_step (by decide) (op_load teSL rfl he.pg.2.2 ?_)
        intro u hu2
        rw [eSl_V] at hu2
        refine rl_step (by decide) (op_len uL rfl hu2 ?_)
        clear hu2 he
        simp only [Int.toNat_natCast]
        (repeat (first
            | refine run_seq ?_
            | refine run_region_l ?_
            | refine rl_nil ?_
            | refine rl_step (by decide) (op_move rfl ?_)
            | refine rl_step (by decide) (op_assign rfl ?_)
            | refine run_block ?_
            | refine run_inBlock ?_
            | refine run_exit rfl ?_
            | refine run_skip ?_
            | refine run_label ?_
            | refine run_true rfl ?_
            | refine run_false rfl ?_
            | refine rl_yes rfl rfl ?_
            | refine rl_no rfl rfl rfl (by decide) ?_
            | refine rl_step (by decide) (op_pick_t rfl rfl ?_)
            | refine rl_step (by decide) (op_pick_f rfl rfl ?_)
            | refine rl_step (by decide) (op_lss rfl rfl ?_)
            | refine rl_step (by decide) (op_leq rfl rfl ?_)
            | refine rl_step (by decide) (op_gtr rfl rfl ?_)
            | refine rl_step (by decide) (op_geq rfl rfl ?_)
            | refine rl_step (by decide) (op_eql rfl rfl ?_)
            | refine rl_step (by decide) (op_neq rfl rfl ?_)
            | refine rl_step (by decide) (op_not rfl ?_)
            | refine rl_step (by decide) (op_min rfl rfl ?_)
            | refine rl_step (by decide) (op_max rfl rfl ?_)
            | refine rl_step (by decide) (op_extract rfl rfl ?_)
            | refine rl_step (by decide) (op_add rfl rfl (by omega) ?_)
            | refine rl_step (by decide) (op_sub rfl rfl (by omega) ?_)
            | refine rl_step (by decide) (op_neg rfl (by omega) ?_)))
        refine run_if rfl (fun hc2 => absurd hc2 (by omega)) (fun _ => ?_)
        (repeat (first
            | refine run_seq ?_
            | refine run_region_l ?_
            | refine rl_nil ?_
            | refine rl_step (by decide) (op_move rfl ?_)
            | refine rl_step (by decide) (op_assign rfl ?_)
            | refine run_block ?_
            | refine run_inBlock ?_
            | refine run_exit rfl ?_
            | refine run_skip ?_
            | refine run_label ?_
            | refine run_true rfl ?_
            | refine run_false rfl ?_
            | refine rl_yes rfl rfl ?_
            | refine rl_no rfl rfl rfl (by decide) ?_
            | refine rl_step (by decide) (op_pick_t rfl rfl ?_)
            | refine rl_step (by decide) (op_pick_f rfl rfl ?_)
            | refine rl_step (by decide) (op_lss rfl rfl ?_)
            | refine rl_step (by decide) (op_leq rfl rfl ?_)
            | refine rl_step (by decide) (op_gtr rfl rfl ?_)
            | refine rl_step (by decide) (op_geq rfl rfl ?_)
            | refine rl_step (by decide) (op_eql rfl rfl ?_)
            | refine rl_step (by decide) (op_neq rfl rfl ?_)
            | refine rl_step (by decide) (op_not rfl ?_)
            | refine rl_step (by decide) (op_min rfl rfl ?_)
            | refine rl_step (by decide) (op_max rfl rfl ?_)
            | refine rl_step (by decide) (op_extract rfl rfl ?_)
            | refine rl_step (by decide) (op_add rfl rfl (by omega) ?_)
            | refine rl_step (by decide) (op_sub rfl rfl (by omega) ?_)
            | refine rl_step (by decide) (op_neg rfl (by omega) ?_)))
        refine (ih (i + 1, M4) _ ⟨by simp only; omega, hr, hb, hn, hp⟩ (by simp only; omega)).sub (by repeat (first | exact trivial | refine ⟨rfl, ?_⟩))
      · rw [if_pos (List.eq_nil_of_length_eq_zero (by omega))] at hneed
        (repeat (first
            | refine run_seq ?_
            | refine run_region_l ?_
            | refine rl_nil ?_
            | refine rl_step (by decide) (op_move rfl ?_)
            | refine rl_step (by decide) (op_assign rfl ?_)
            | refine run_block ?_
            | refine run_inBlock ?_
            | refine run_exit rfl ?_
            | refine run_skip ?_
            | refine run_label ?_
            | refine run_true rfl ?_
            | refine run_false rfl ?_
            | refine rl_yes rfl rfl ?_
            | refine rl_no rfl rfl rfl (by decide) ?_
            | refine rl_step (by decide) (op_pick_t rfl rfl ?_)
            | refine rl_step (by decide) (op_pick_f rfl rfl ?_)
            | refine rl_step (by decide) (op_lss rfl rfl ?_)
            | refine rl_step (by decide) (op_leq rfl rfl ?_)
            | refine rl_step (by decide) (op_gtr rfl rfl ?_)
            | refine rl_step (by decide) (op_geq rfl rfl ?_)
            | refine rl_step (by decide) (op_eql rfl rfl ?_)
            | refine rl_step (by decide) (op_neq rfl rfl ?_)
            | refine rl_step (by decide) (op_not rfl ?_)
            | refine rl_step (by decide) (op_min rfl rfl ?_)
            | refine rl_step (by decide) (op_max rfl rfl ?_)
            | refine rl_step (by decide) (op_extract rfl rfl ?_)
            | refine rl_step (by decide) (op_add rfl rfl (by omega) ?_)
            | refine rl_step (by decide) (op_sub rfl rfl (by omega) ?_)
            | refine rl_step (by decide) (op_neg rfl (by omega) ?_)))
        refine run_if rfl (fun hc2 => absurd hc2 (by omega)) (fun _ => ?_)
        (repeat (first
            | refine run_seq ?_
            | refine run_region_l ?_
            | refine rl_nil ?_
            | refine rl_step (by decide) (op_move rfl ?_)
            | refine rl_step (by decide) (op_assign rfl ?_)
            | refine run_block ?_
            | refine run_inBlock ?_
            | refine run_exit rfl ?_
            | refine run_skip ?_
            | refine run_label ?_
            | refine run_true rfl ?_
            | refine run_false rfl ?_
            | refine rl_yes rfl rfl ?_
            | refine rl_no rfl rfl rfl (by decide) ?_
            | refine rl_step (by decide) (op_pick_t rfl rfl ?_)
            | refine rl_step (by decide) (op_pick_f rfl rfl ?_)
            | refine rl_step (by decide) (op_lss rfl rfl ?_)
            | refine rl_step (by decide) (op_leq rfl rfl ?_)
            | refine rl_step (by decide) (op_gtr rfl rfl ?_)
            | refine rl_step (by decide) (op_geq rfl rfl ?_)
            | refine rl_step (by decide) (op_eql rfl rfl ?_)
            | refine rl_step (by decide) (op_neq rfl rfl ?_)
            | refine rl_step (by decide) (op_not rfl ?_)
            | refine rl_step (by decide) (op_min rfl rfl ?_)
            | refine rl_step (by decide) (op_max rfl rfl ?_)
            | refine rl_step (by decide) (op_extract rfl rfl ?_)
            | refine rl_step (by decide) (op_add rfl rfl (by omega) ?_)
            | refine rl_step (by decide) (op_sub rfl rfl (by omega) ?_)
            | refine rl_step (by decide) (op_neg rfl (by omega) ?_)))
        refine (ih (i + 1, M4) _ ⟨by simp only; omega, hr, hb, hn, hp⟩ (by simp only; omega)).sub (by repeat (first | exact trivial | refine ⟨rfl, ?_⟩))

end Go.Proofs.Ytocoinkhbjlbhaa
