/-
  Walk: page.Set.
-/
import Derived.Test.YtocoinkhbjlbhaaS4
namespace Go.Proofs.Ytocoinkhbjlbhaa
open Go Go.RowKit

/-- What page.Set answers. -/
def SetR (h : Int) (body : List Line) (notes : List (List Line)) (M : Mut) (w : World) (v : Value) : Prop :=
  ∃ vp, v = .tuple #[vp, .int .i64 (chkM body notes h)] ∧ SlOf ePg M w vp (if chkM body notes h = 0 then setAll h body notes else [])

/-- What is known at the head of a page. -/
structure PgJ (M0 : Mut) (w0 : World) (h : Int) (notes : List (List Line)) (vn : Value) (bb bh bq : Nat) (M : Mut) (w : World) (body q : List Line) (ps : List Pg) (vb vq vp : Value) : Prop where
  rn : Rn M0 w0 M w
  bb : Box M w bb 3 [vb] 23
  bh : Box M w bh 5 [.int .i64 h] 3
  bq : Box M w bq 10 [vq] 23
  sb : SlOf eLine M w vb body
  sq : SlOf eLine M w vq q
  gq : Grow w0.heap.size M w vq q.length 4 4 47
  sp : SlOf ePg M w vp ps
  gp : Grow w0.heap.size M w vp ps.length 6 9 40
  sn : SlOf (eSl eLine) M w vn notes
  hr : ∀ i ∈ refs body, 0 ≤ i ∧ i < notes.length

theorem PgJ.up {M0 : Mut} {w0 : World} {h : Int} {notes : List (List Line)} {vn : Value} {bb bh bq : Nat} {M M' : Mut} {w w' : World} {body q : List Line} {ps : List Pg} {vb vq vp : Value}
    (k : PgJ M0 w0 h notes vn bb bh bq M w body q ps vb vq vp) (s : UpM M w M' w') : PgJ M0 w0 h notes vn bb bh bq M' w' body q ps vb vq vp :=
  ⟨k.rn.up s, k.bb.up s, k.bh.up s, k.bq.up s, k.sb.mono s.x, k.sq.mono s.x, k.gq.up s, k.sp.mono s.x, k.gp.up s, k.sn.mono s.x, k.hr⟩

theorem PgJ.st {M0 : Mut} {w0 : World} {h : Int} {notes : List (List Line)} {vn : Value} {bb bh bq tag : Nat} {M M' : Mut} {w w' : World} {body q : List Line} {ps : List Pg} {vb vq vp : Value}
    (k : PgJ M0 w0 h notes vn bb bh bq M w body q ps vb vq vp) (s : St w0.heap.size (some tag) M w M' w') (ht : tag ≠ 3 ∧ tag ≠ 5 ∧ tag ≠ 10 ∧ tag ≠ 4 ∧ tag ≠ 9) : PgJ M0 w0 h notes vn bb bh bq M' w' body q ps vb vq vp :=
  ⟨k.rn.st s, k.bb.st s (by simp; omega), k.bh.st s (by simp; omega), k.bq.st s (by simp; omega), k.sb.mono s.x, k.sq.mono s.x, k.gq.st s (by simp; omega), k.sp.mono s.x, k.gp.st s (by simp; omega), k.sn.mono s.x, k.hr⟩

theorem PgJ.vars {M0 : Mut} {w0 : World} {h : Int} {notes : List (List Line)} {vn : Value} {bb bh bq bl bs br : Nat} {M : Mut} {w : World} {body q : List Line} {ps : List Pg} {vb vq vp : Value} {n s : Int}
    (k : PgJ M0 w0 h notes vn bb bh bq M w body q ps vb vq vp) (hl : Box M w bl 11 [.int .i64 n] 3) (hs : Box M w bs 12 [.int .i64 s] 3) (hr : Box M w br 13 [.func (.func 44) #[] #[ptr bh, ptr bl, ptr bs]] 63) :
    Vars M w bb bh bq bl bs br vb vq h n s := ⟨k.bb, k.bh, k.bq, hl, hs, hr⟩

/-- What is known while a page is filled. -/
structure FS where
  n : Int
  s : Int
  q : List Line
  vq : Value
  M : Mut

structure LS where
  f : Nat
  body : List Line
  q : List Line
  ps : List Pg
  vb : Value
  vq : Value
  vp : Value
  M : Mut

set_option maxRecDepth 4000 in
set_option maxHeartbeats 1000000 in
theorem set_c (M : Mut) (vb vn : Value) (body : List Line) (notes : List (List Line)) (h : Int) (w : World) (hm : MB M w) (hb : SlOf eLine M w vb body) (hn : SlOf (eSl eLine) M w vn notes) (_hI : I64 h)
    (hsz : chkM body notes h = 0 → body.length ≤ 1000000 ∧ sumR notes body ≤ 1000000) :
    CallsV Try.prog 18 [vb, vn, .int .i64 h] w (fun u w' => SetR h body notes M w' u ∧ Below w.heap.size w w') := by
  have hr := Rn.refl hm
  obtain ⟨ab, cb, qb, _⟩ := hb.ex
  refine callsV_of_run Try.func18 rfl Try.ntmps18 (Nat.le_of_ble_eq_true rfl) ?_
  (repeat (first
      | refine run_seq ?_
      | refine run_region_l ?_
      | refine rl_nil ?_
      | refine rl_step (by decide) (op_move rfl ?_)
      | refine rl_step (by decide) (op_assign rfl ?_)
      | refine run_block ?_
      | refine run_inBlock ?_
      | refine run_exit rfl ?_
      | refine run_skip ?_
      | refine run_label ?_
      | refine run_true rfl ?_
      | refine run_false rfl ?_
      | refine rl_yes rfl rfl ?_
      | refine rl_no rfl rfl rfl (by decide) ?_
      | refine rl_step (by decide) (op_pick_t rfl rfl ?_)
      | refine rl_step (by decide) (op_pick_f rfl rfl ?_)
      | refine rl_step (by decide) (op_lss rfl rfl ?_)
      | refine rl_step (by decide) (op_leq rfl rfl ?_)
      | refine rl_step (by decide) (op_gtr rfl rfl ?_)
      | refine rl_step (by decide) (op_geq rfl rfl ?_)
      | refine rl_step (by decide) (op_eql rfl rfl ?_)
      | refine rl_step (by decide) (op_neq rfl rfl ?_)
      | refine rl_step (by decide) (op_not rfl ?_)
      | refine rl_step (by decide) (op_min rfl rfl ?_)
      | refine rl_step (by decide) (op_max rfl rfl ?_)
      | refine rl_step (by decide) (op_extract rfl rfl ?_)
      | refine rl_step (by decide) (op_add rfl rfl (by omega) ?_)
      | refine rl_step (by decide) (op_sub rfl rfl (by omega) ?_)
      | refine rl_step (by decide) (op_neg rfl (by omega) ?_)))
  refine rl_step (by decide) (op_box 3 hr (cs := [vb]) rfl (by rw [qb]; rfl) ?_)
  intro bb w1 M1 hBb hbb hs1
  replace hb := hb.mono hs1.x
  replace hn := hn.mono hs1.x
  replace hr := hr.up hs1
  refine rl_step (by decide) (op_box 5 hr (cs := [.int .i64 h]) rfl rfl ?_)
  intro bh w2 M2 hBh hbh hs2
  replace hb := hb.mono hs2.x
  replace hn := hn.mono hs2.x
  replace hr := hr.up hs2
  replace hbb := hbb.up hs2
  (repeat (first
      | refine run_seq ?_
      | refine run_region_l ?_
      | refine rl_nil ?_
      | refine rl_step (by decide) (op_move rfl ?_)
      | refine rl_step (by decide) (op_assign rfl ?_)
      | refine run_block ?_
      | refine run_inBlock ?_
      | refine run_exit rfl ?_
      | refine run_skip ?_
      | refine run_label ?_
      | refine run_true rfl ?_
      | refine run_false rfl ?_
      | refine rl_yes rfl rfl ?_
      | refine rl_no rfl rfl rfl (by decide) ?_
      | refine rl_step (by decide) (op_pick_t rfl rfl ?_)
      | refine rl_step (by decide) (op_pick_f rfl rfl ?_)
      | refine rl_step (by decide) (op_lss rfl rfl ?_)
      | refine rl_step (by decide) (op_leq rfl rfl ?_)
      | refine rl_step (by decide) (op_gtr rfl rfl ?_)
      | refine rl_step (by decide) (op_geq rfl rfl ?_)
      | refine rl_step (by decide) (op_eql rfl rfl ?_)
      | refine rl_step (by decide) (op_neq rfl rfl ?_)
      | refine rl_step (by decide) (op_not rfl ?_)
      | refine rl_step (by decide) (op_min rfl rfl ?_)
      | refine rl_step (by decide) (op_max rfl rfl ?_)
      | refine rl_step (by decide) (op_extract rfl rfl ?_)
      | refine rl_step (by decide) (op_add rfl rfl (by omega) ?_)
      | refine rl_step (by decide) (op_sub rfl rfl (by omega) ?_)
      | refine rl_step (by decide) (op_neg rfl (by omega) ?_)))
  refine rl_step (by decide) (op_load1 tdSL rfl hbb rfl ?_)
  (repeat (first
      | refine run_seq ?_
      | refine run_region_l ?_
      | refine rl_nil ?_
      | refine rl_step (by decide) (op_move rfl ?_)
      | refine rl_step (by decide) (op_assign rfl ?_)
      | refine run_block ?_
      | refine run_inBlock ?_
      | refine run_exit rfl ?_
      | refine run_skip ?_
      | refine run_label ?_
      | refine run_true rfl ?_
      | refine run_false rfl ?_
      | refine rl_yes rfl rfl ?_
      | refine rl_no rfl rfl rfl (by decide) ?_
      | refine rl_step (by decide) (op_pick_t rfl rfl ?_)
      | refine rl_step (by decide) (op_pick_f rfl rfl ?_)
      | refine rl_step (by decide) (op_lss rfl rfl ?_)
      | refine rl_step (by decide) (op_leq rfl rfl ?_)
      | refine rl_step (by decide) (op_gtr rfl rfl ?_)
      | refine rl_step (by decide) (op_geq rfl rfl ?_)
      | refine rl_step (by decide) (op_eql rfl rfl ?_)
      | refine rl_step (by decide) (op_neq rfl rfl ?_)
      | refine rl_step (by decide) (op_not rfl ?_)
      | refine rl_step (by decide) (op_min rfl rfl ?_)
      | refine rl_step (by decide) (op_max rfl rfl ?_)
      | refine rl_step (by decide) (op_extract rfl rfl ?_)
      | refine rl_step (by decide) (op_add rfl rfl (by omega) ?_)
      | refine rl_step (by decide) (op_sub rfl rfl (by omega) ?_)
      | refine rl_step (by decide) (op_neg rfl (by omega) ?_)))
  refine rl_step (by decide) (op_load1 tdI rfl hbh rfl ?_)
  refine rl_step (by decide) (op_call ent43 rfl (check_c M2 _ _ _ _ _ _ hr.mb hb hn) ?_)
  rintro e w3 ⟨rfl, hbel⟩
  have hs3 : UpM M2 w2 M2 w3 := UpM.of_below hbel
  replace hb := hb.mono hs3.x
  replace hn := hn.mono hs3.x
  replace hr := hr.up hs3
  replace hbb := hbb.up hs3
  replace hbh := hbh.up hs3
  (repeat (first
      | refine run_seq ?_
      | refine run_region_l ?_
      | refine rl_nil ?_
      | refine rl_step (by decide) (op_move rfl ?_)
      | refine rl_step (by decide) (op_assign rfl ?_)
      | refine run_block ?_
      | refine run_inBlock ?_
      | refine run_exit rfl ?_
      | refine run_skip ?_
      | refine run_label ?_
      | refine run_true rfl ?_
      | refine run_false rfl ?_
      | refine rl_yes rfl rfl ?_
      | refine rl_no rfl rfl rfl (by decide) ?_
      | refine rl_step (by decide) (op_pick_t rfl rfl ?_)
      | refine rl_step (by decide) (op_pick_f rfl rfl ?_)
      | refine rl_step (by decide) (op_lss rfl rfl ?_)
      | refine rl_step (by decide) (op_leq rfl rfl ?_)
      | refine rl_step (by decide) (op_gtr rfl rfl ?_)
      | refine rl_step (by decide) (op_geq rfl rfl ?_)
      | refine rl_step (by decide) (op_eql rfl rfl ?_)
      | refine rl_step (by decide) (op_neq rfl rfl ?_)
      | refine rl_step (by decide) (op_not rfl ?_)
      | refine rl_step (by decide) (op_min rfl rfl ?_)
      | refine rl_step (by decide) (op_max rfl rfl ?_)
      | refine rl_step (by decide) (op_extract rfl rfl ?_)
      | refine rl_step (by decide) (op_add rfl rfl (by omega) ?_)
      | refine rl_step (by decide) (op_sub rfl rfl (by omega) ?_)
      | refine rl_step (by decide) (op_neg rfl (by omega) ?_)))
  refine run_if rfl (fun hc => ?_) (fun hc => ?_)
  · (repeat (first
        | refine run_seq ?_
        | refine run_region_l ?_
        | refine rl_nil ?_
        | refine rl_step (by decide) (op_move rfl ?_)
        | refine rl_step (by decide) (op_assign rfl ?_)
        | refine run_block ?_
        | refine run_inBlock ?_
        | refine run_exit rfl ?_
        | refine run_skip ?_
        | refine run_label ?_
        | refine run_true rfl ?_
        | refine run_false rfl ?_
        | refine rl_yes rfl rfl ?_
        | refine rl_no rfl rfl rfl (by decide) ?_
        | refine rl_step (by decide) (op_pick_t rfl rfl ?_)
        | refine rl_step (by decide) (op_pick_f rfl rfl ?_)
        | refine rl_step (by decide) (op_lss rfl rfl ?_)
        | refine rl_step (by decide) (op_leq rfl rfl ?_)
        | refine rl_step (by decide) (op_gtr rfl rfl ?_)
        | refine rl_step (by decide) (op_geq rfl rfl ?_)
        | refine rl_step (by decide) (op_eql rfl rfl ?_)
        | refine rl_step (by decide) (op_neq rfl rfl ?_)
        | refine rl_step (by decide) (op_not rfl ?_)
        | refine rl_step (by decide) (op_min rfl rfl ?_)
        | refine rl_step (by decide) (op_max rfl rfl ?_)
        | refine rl_step (by decide) (op_extract rfl rfl ?_)
        | refine rl_step (by decide) (op_add rfl rfl (by omega) ?_)
        | refine rl_step (by decide) (op_sub rfl rfl (by omega) ?_)
        | refine rl_step (by decide) (op_neg rfl (by omega) ?_)))
    refine run_ret2 Try.func18 rfl rfl rfl ?_
    exact ⟨⟨_, rfl, by rw [if_neg hc]; exact SlOf.nil _ _ _⟩, hr.bel⟩
  have hc : chkM body notes h = 0 := Classical.byContradiction hc
  replace hsz := hsz hc
  clear hs1 hs2 hs3 hbel
  (repeat (first
      | refine run_seq ?_
      | refine run_region_l ?_
      | refine rl_nil ?_
      | refine rl_step (by decide) (op_move rfl ?_)
      | refine rl_step (by decide) (op_assign rfl ?_)
      | refine run_block ?_
      | refine run_inBlock ?_
      | refine run_exit rfl ?_
      | refine run_skip ?_
      | refine run_label ?_
      | refine run_true rfl ?_
      | refine run_false rfl ?_
      | refine rl_yes rfl rfl ?_
      | refine rl_no rfl rfl rfl (by decide) ?_
      | refine rl_step (by decide) (op_pick_t rfl rfl ?_)
      | refine rl_step (by decide) (op_pick_f rfl rfl ?_)
      | refine rl_step (by decide) (op_lss rfl rfl ?_)
      | refine rl_step (by decide) (op_leq rfl rfl ?_)
      | refine rl_step (by decide) (op_gtr rfl rfl ?_)
      | refine rl_step (by decide) (op_geq rfl rfl ?_)
      | refine rl_step (by decide) (op_eql rfl rfl ?_)
      | refine rl_step (by decide) (op_neq rfl rfl ?_)
      | refine rl_step (by decide) (op_not rfl ?_)
      | refine rl_step (by decide) (op_min rfl rfl ?_)
      | refine rl_step (by decide) (op_max rfl rfl ?_)
      | refine rl_step (by decide) (op_extract rfl rfl ?_)
      | refine rl_step (by decide) (op_add rfl rfl (by omega) ?_)
      | refine rl_step (by decide) (op_sub rfl rfl (by omega) ?_)
      | refine rl_step (by decide) (op_neg rfl (by omega) ?_)))
  refine rl_step (by decide) (op_alloc 10 hr tdSL ?_)
  intro bq w4 M4 hBq hbq hs4
  replace hb := hb.mono hs4.x
  replace hn := hn.mono hs4.x
  replace hr := hr.up hs4
  replace hbb := hbb.up hs4
  replace hbh := hbh.up hs4
  clear hs4
  obtain ⟨hh1, hh2, hh3, hord⟩ := chk_ok hc
  have hrefs := ordM_range _ _ _ _ hord (by omega)
  (repeat (first
      | refine run_seq ?_
      | refine run_region_l ?_
      | refine rl_nil ?_
      | refine rl_step (by decide) (op_move rfl ?_)
      | refine rl_step (by decide) (op_assign rfl ?_)
      | refine run_block ?_
      | refine run_inBlock ?_
      | refine run_exit rfl ?_
      | refine run_skip ?_
      | refine run_label ?_
      | refine run_true rfl ?_
      | refine run_false rfl ?_
      | refine rl_yes rfl rfl ?_
      | refine rl_no rfl rfl rfl (by decide) ?_
      | refine rl_step (by decide) (op_pick_t rfl rfl ?_)
      | refine rl_step (by decide) (op_pick_f rfl rfl ?_)
      | refine rl_step (by decide) (op_lss rfl rfl ?_)
      | refine rl_step (by decide) (op_leq rfl rfl ?_)
      | refine rl_step (by decide) (op_gtr rfl rfl ?_)
      | refine rl_step (by decide) (op_geq rfl rfl ?_)
      | refine rl_step (by decide) (op_eql rfl rfl ?_)
      | refine rl_step (by decide) (op_neq rfl rfl ?_)
      | refine rl_step (by decide) (op_not rfl ?_)
      | refine rl_step (by decide) (op_min rfl rfl ?_)
      | refine rl_step (by decide) (op_max rfl rfl ?_)
      | refine rl_step (by decide) (op_extract rfl rfl ?_)
      | refine rl_step (by decide) (op_add rfl rfl (by omega) ?_)
      | refine rl_step (by decide) (op_sub rfl rfl (by omega) ?_)
      | refine rl_step (by decide) (op_neg rfl (by omega) ?_)))
  refine (run_loop (α := LS) (fun x => [(1, vn), (3, ptr bb), (5, ptr bh), (9, x.vp), (10, ptr bq)])
    (fun x w' => PgJ M w h notes vn bb bh bq x.M w' x.body x.q x.ps x.vb x.vq x.vp ∧ x.ps.length + x.body.length + x.q.length + sumR notes x.body ≤ 2000000 ∧ x.body.length + x.q.length + sumR notes x.body < x.f ∧ setAll h body notes = x.ps ++ setM h notes x.f x.body x.q)
    (fun x => x.body.length + x.q.length + sumR notes x.body) ⟨body.length + sumR notes body + 1, body, [], [], vb, .slice none 0 0, .slice none 0 0, M4⟩
    ⟨⟨hr, hbb, hbh, hbq, hb, SlOf.nil _ _ _, Grow.nil, SlOf.nil _ _ _, Grow.nil, hn, hrefs⟩, by simp; omega, by simp, rfl⟩ ?_).sub (by repeat (first | exact trivial | refine ⟨rfl, ?_⟩))
  clear hr hbb hbh hbq hb hn hrefs qb
  rintro ⟨f, bd, q, ps, vb, vq, vp, M5⟩ w5 ⟨hJ, hsz2, hf, hall⟩ ih
  simp only at hJ hsz2 hf hall ih
  dsimp only
  have hlb := hJ.sb.le
  (repeat (first
      | refine run_seq ?_
      | refine run_region_l ?_
      | refine rl_nil ?_
      | refine rl_step (by decide) (op_move rfl ?_)
      | refine rl_step (by decide) (op_assign rfl ?_)
      | refine run_block ?_
      | refine run_inBlock ?_
      | refine run_exit rfl ?_
      | refine run_skip ?_
      | refine run_label ?_
      | refine run_true rfl ?_
      | refine run_false rfl ?_
      | refine rl_yes rfl rfl ?_
      | refine rl_no rfl rfl rfl (by decide) ?_
      | refine rl_step (by decide) (op_pick_t rfl rfl ?_)
      | refine rl_step (by decide) (op_pick_f rfl rfl ?_)
      | refine rl_step (by decide) (op_lss rfl rfl ?_)
      | refine rl_step (by decide) (op_leq rfl rfl ?_)
      | refine rl_step (by decide) (op_gtr rfl rfl ?_)
      | refine rl_step (by decide) (op_geq rfl rfl ?_)
      | refine rl_step (by decide) (op_eql rfl rfl ?_)
      | refine rl_step (by decide) (op_neq rfl rfl ?_)
      | refine rl_step (by decide) (op_not rfl ?_)
      | refine rl_step (by decide) (op_min rfl rfl ?_)
      | refine rl_step (by decide) (op_max rfl rfl ?_)
      | refine rl_step (by decide) (op_extract rfl rfl ?_)
      | refine rl_step (by decide) (op_add rfl rfl (by omega) ?_)
      | refine rl_step (by decide) (op_sub rfl rfl (by omega) ?_)
      | refine rl_step (by decide) (op_neg rfl (by omega) ?_)))
  refine rl_step (by decide) (op_load1 tdSL rfl hJ.bb rfl ?_)
  refine rl_step (by decide) (op_len uL rfl hJ.sb ?_)
  (repeat (first
      | refine run_seq ?_
      | refine run_region_l ?_
      | refine rl_nil ?_
      | refine rl_step (by decide) (op_move rfl ?_)
      | refine rl_step (by decide) (op_assign rfl ?_)
      | refine run_block ?_
      | refine run_inBlock ?_
      | refine run_exit rfl ?_
      | refine run_skip ?_
      | refine run_label ?_
      | refine run_true rfl ?_
      | refine run_false rfl ?_
      | refine rl_yes rfl rfl ?_
      | refine rl_no rfl rfl rfl (by decide) ?_
      | refine rl_step (by decide) (op_pick_t rfl rfl ?_)
      | refine rl_step (by decide) (op_pick_f rfl rfl ?_)
      | refine rl_step (by decide) (op_lss rfl rfl ?_)
      | refine rl_step (by decide) (op_leq rfl rfl ?_)
      | refine rl_step (by decide) (op_gtr rfl rfl ?_)
      | refine rl_step (by decide) (op_geq rfl rfl ?_)
      | refine rl_step (by decide) (op_eql rfl rfl ?_)
      | refine rl_step (by decide) (op_neq rfl rfl ?_)
      | refine rl_step (by decide) (op_not rfl ?_)
      | refine rl_step (by decide) (op_min rfl rfl ?_)
      | refine rl_step (by decide) (op_max rfl rfl ?_)
      | refine rl_step (by decide) (op_extract rfl rfl ?_)
      | refine rl_step (by decide) (op_add rfl rfl (by omega) ?_)
      | refine rl_step (by decide) (op_sub rfl rfl (by omega) ?_)
      | refine rl_step (by decide) (op_neg rfl (by omega) ?_)))
  have hcase : (0 : Int) < bd.length ∨ (bd.length = 0 ∧ (0 : Int) < q.length) ∨ (bd = [] ∧ q = []) := by
    rcases Nat.eq_zero_or_pos bd.length with h1 | h1
    · rcases Nat.eq_zero_or_pos q.length with h2 | h2
      · exact .inr (.inr ⟨List.eq_nil_of_length_eq_zero h1, List.eq_nil_of_length_eq_zero h2⟩)
      · exact .inr (.inl (by omega))
    · exact .inl (by omega)
  rcases hcase with hne | hne | ⟨rfl, rfl⟩
  case inr.inr =>
    refine rl_part 28 rfl (fun h => absurd h (by simp)) (fun _ => ?_)
    (repeat (first
        | refine run_seq ?_
        | refine run_region_l ?_
        | refine rl_nil ?_
        | refine rl_step (by decide) (op_move rfl ?_)
        | refine rl_step (by decide) (op_assign rfl ?_)
        | refine run_block ?_
        | refine run_inBlock ?_
        | refine run_exit rfl ?_
        | refine run_skip ?_
        | refine run_label ?_
        | refine run_true rfl ?_
        | refine run_false rfl ?_
        | refine rl_yes rfl rfl ?_
        | refine rl_no rfl rfl rfl (by decide) ?_
        | refine rl_step (by decide) (op_pick_t rfl rfl ?_)
        | refine rl_step (by decide) (op_pick_f rfl rfl ?_)
        | refine rl_step (by decide) (op_lss rfl rfl ?_)
        | refine rl_step (by decide) (op_leq rfl rfl ?_)
        | refine rl_step (by decide) (op_gtr rfl rfl ?_)
        | refine rl_step (by decide) (op_geq rfl rfl ?_)
        | refine rl_step (by decide) (op_eql rfl rfl ?_)
        | refine rl_step (by decide) (op_neq rfl rfl ?_)
        | refine rl_step (by decide) (op_not rfl ?_)
        | refine rl_step (by decide) (op_min rfl rfl ?_)
        | refine rl_step (by decide) (op_max rfl rfl ?_)
        | refine rl_step (by decide) (op_extract rfl rfl ?_)
        | refine rl_step (by decide) (op_add rfl rfl (by omega) ?_)
        | refine rl_step (by decide) (op_sub rfl rfl (by omega) ?_)
        | refine rl_step (by decide) (op_neg rfl (by omega) ?_)))
    refine rl_step (by decide) (op_load1 tdSL rfl hJ.bq rfl ?_)
    (repeat (first
        | refine run_seq ?_
        | refine run_region_l ?_
        | refine rl_nil ?_
        | refine rl_step (by decide) (op_move rfl ?_)
        | refine rl_step (by decide) (op_assign rfl ?_)
        | refine run_block ?_
        | refine run_inBlock ?_
        | refine run_exit rfl ?_
        | refine run_skip ?_
        | refine run_label ?_
        | refine run_true rfl ?_
        | refine run_false rfl ?_
        | refine rl_yes rfl rfl ?_
        | refine rl_no rfl rfl rfl (by decide) ?_
        | refine rl_step (by decide) (op_pick_t rfl rfl ?_)
        | refine rl_step (by decide) (op_pick_f rfl rfl ?_)
        | refine rl_step (by decide) (op_lss rfl rfl ?_)
        | refine rl_step (by decide) (op_leq rfl rfl ?_)
        | refine rl_step (by decide) (op_gtr rfl rfl ?_)
        | refine rl_step (by decide) (op_geq rfl rfl ?_)
        | refine rl_step (by decide) (op_eql rfl rfl ?_)
        | refine rl_step (by decide) (op_neq rfl rfl ?_)
        | refine rl_step (by decide) (op_not rfl ?_)
        | refine rl_step (by decide) (op_min rfl rfl ?_)
        | refine rl_step (by decide) (op_max rfl rfl ?_)
        | refine rl_step (by decide) (op_extract rfl rfl ?_)
        | refine rl_step (by decide) (op_add rfl rfl (by omega) ?_)
        | refine rl_step (by decide) (op_sub rfl rfl (by omega) ?_)
        | refine rl_step (by decide) (op_neg rfl (by omega) ?_)))
    refine rl_step (by decide) (op_len uL rfl hJ.sq ?_)
    (repeat (first
        | refine run_seq ?_
        | refine run_region_l ?_
        | refine rl_nil ?_
        | refine rl_step (by decide) (op_move rfl ?_)
        | refine rl_step (by decide) (op_assign rfl ?_)
        | refine run_block ?_
        | refine run_inBlock ?_
        | refine run_exit rfl ?_
        | refine run_skip ?_
        | refine run_label ?_
        | refine run_true rfl ?_
        | refine run_false rfl ?_
        | refine rl_yes rfl rfl ?_
        | refine rl_no rfl rfl rfl (by decide) ?_
        | refine rl_step (by decide) (op_pick_t rfl rfl ?_)
        | refine rl_step (by decide) (op_pick_f rfl rfl ?_)
        | refine rl_step (by decide) (op_lss rfl rfl ?_)
        | refine rl_step (by decide) (op_leq rfl rfl ?_)
        | refine rl_step (by decide) (op_gtr rfl rfl ?_)
        | refine rl_step (by decide) (op_geq rfl rfl ?_)
        | refine rl_step (by decide) (op_eql rfl rfl ?_)
        | refine rl_step (by decide) (op_neq rfl rfl ?_)
        | refine rl_step (by decide) (op_not rfl ?_)
        | refine rl_step (by decide) (op_min rfl rfl ?_)
        | refine rl_step (by decide) (op_max rfl rfl ?_)
        | refine rl_step (by decide) (op_extract rfl rfl ?_)
        | refine rl_step (by decide) (op_add rfl rfl (by omega) ?_)
        | refine rl_step (by decide) (op_sub rfl rfl (by omega) ?_)
        | refine rl_step (by decide) (op_neg rfl (by omega) ?_)))
    refine run_ret2 Try.func18 rfl rfl rfl ?_
    have hnil : setM h notes f [] [] = [] := by cases f <;> rfl
    rw [hnil, List.append_nil] at hall
    exact ⟨⟨_, by rw [hc], by rw [if_pos hc, hall]; exact hJ.sp.mono hJ.rn.fin⟩, hJ.rn.bel⟩
  · refine rl_part 28 rfl (fun _ => ?_) (fun h => absurd hne h)
    (repeat (first
        | refine run_seq ?_
        | refine run_region_l ?_
        | refine rl_nil ?_
        | refine rl_step (by decide) (op_move rfl ?_)
        | refine rl_step (by decide) (op_assign rfl ?_)
        | refine run_block ?_
        | refine run_inBlock ?_
        | refine run_exit rfl ?_
        | refine run_skip ?_
        | refine run_label ?_
        | refine run_true rfl ?_
        | refine run_false rfl ?_
        | refine rl_yes rfl rfl ?_
        | refine rl_no rfl rfl rfl (by decide) ?_
        | refine rl_step (by decide) (op_pick_t rfl rfl ?_)
        | refine rl_step (by decide) (op_pick_f rfl rfl ?_)
        | refine rl_step (by decide) (op_lss rfl rfl ?_)
        | refine rl_step (by decide) (op_leq rfl rfl ?_)
        | refine rl_step (by decide) (op_gtr rfl rfl ?_)
        | refine rl_step (by decide) (op_geq rfl rfl ?_)
        | refine rl_step (by decide) (op_eql rfl rfl ?_)
        | refine rl_step (by decide) (op_neq rfl rfl ?_)
        | refine rl_step (by decide) (op_not rfl ?_)
        | refine rl_step (by decide) (op_min rfl rfl ?_)
        | refine rl_step (by decide) (op_max rfl rfl ?_)
        | refine rl_step (by decide) (op_extract rfl rfl ?_)
        | refine rl_step (by decide) (op_add rfl rfl (by omega) ?_)
        | refine rl_step (by decide) (op_sub rfl rfl (by omega) ?_)
        | refine rl_step (by decide) (op_neg rfl (by omega) ?_)))
    have hne' : 0 < bd.length + q.length := by omega
    clear hne
    refine Run.sub (fr' := [(1, vn), (3, ptr bb), (5, ptr bh), (9, vp), (10, ptr bq)]) ?_ (by repeat (first | exact trivial | refine ⟨rfl, ?_⟩))
    have hq0 := hJ.sq.le
    refine region_dr (M := M5) 8 1 [] mixed rfl (by kernel_rfl) (fun w1 hs1 => ?_)
    replace hJ := hJ.up hs1
    refine dr_cons (isv vq) (by decide) (mono_isv _) (ob0 rfl fun M w' hs => opg (op_load1 tdSL rfl (hJ.bq.up hs) rfl ⟨_, UpM.refl _ _, rfl⟩)) ?_
    refine dr_cons (isv (.int .i64 q.length)) (by decide) (mono_isv _) (ob1 rfl fun M w' hs v1 k1 => ?_) ?_
    · cases k1; exact opg (op_len uL rfl (hJ.sq.mono hs.x) ⟨_, UpM.refl _ _, rfl⟩)
    refine dr_cons (isv (.int .i64 h)) (by decide) (mono_isv _) (ob0 rfl fun M w' hs => opg (op_load1 tdI rfl (hJ.bh.up hs) rfl ⟨_, UpM.refl _ _, rfl⟩)) ?_
    refine dr_cons (isv (.int .i64 (h - 1))) (by decide) (mono_isv _) (ob1 rfl fun M w' hs v1 k1 => ?_) ?_
    · cases k1; exact opg (op_sub rfl rfl (by omega) ⟨_, UpM.refl _ _, rfl⟩)
    refine dr_cons (isv (.int .i64 (min q.length (h - 1)))) (by decide) (mono_isv _) (ob2 rfl fun M w' hs v1 k1 v2 k2 => ?_) ?_
    · cases k1; cases k2; exact opg (op_min rfl rfl ⟨_, UpM.refl _ _, rfl⟩)
    refine dr_cons (isBox w.heap.size 11 [.int .i64 0] 3) (by decide) (mono_isBox _ _ _ _) (ob0 rfl fun M w' hs => opg (op_alloc 11 (hJ.rn.up hs) tdI fun b w2 M2 h1 h2 h3 => ⟨_, h3, b, rfl, h1, h2⟩)) ?_
    refine dr_cons (isBox w.heap.size 12 [.int .i64 0] 3) (by decide) (mono_isBox _ _ _ _) (ob0 rfl fun M w' hs => opg (op_alloc 12 (hJ.rn.up hs) tdI fun b w2 M2 h1 h2 h3 => ⟨_, h3, b, rfl, h1, h2⟩)) ?_
    refine dr_cons0 (ob1 rfl fun M w' hs v1 k1 => ?_) ?_
    · obtain ⟨b, rfl, _, hb⟩ := k1
      exact opg (op_storeU (c := [.int .i64 0]) tdI rfl rfl rfl (by simp [Value.oneCell']) rfl hb (by simp) rfl fun w2 h3 => ⟨_, h3, trivial⟩)
    refine dr_nil rfl (fun M6 w6 val hs2 hall2 => ?_)
    obtain ⟨_, h12, h11, h37, _⟩ := hall2
    have e37 : val 37 = _ := h37
    replace hJ := hJ.up hs2
    obtain ⟨bs, e12, hBs, hbs⟩ := h12
    obtain ⟨bl, e11, hBl, hbl⟩ := h11
    refine RT.sub (fr' := [(1, vn), (3, ptr bb), (5, ptr bh), (9, vp), (10, ptr bq), (11, val 11), (12, val 12), (37, val 37)]) ?_ (by repeat (first | exact trivial | refine ⟨rfl, ?_⟩))
    rw [e11, e12, e37]
    refine rt_one0 (i := 8) (by kernel_rfl) rfl (op_store (c := [.int .i64 (min q.length (h - 1))]) tdI rfl rfl rfl (by simp [Value.oneCell']) rfl hJ.rn hBs hbs (by simp) ?_)
    intro w7 hbs hst
    replace hbl := hbl.st hst (by decide)
    replace hJ := hJ.st hst (by decide)
    refine rt_nil (by kernel_rfl) ?_
    replace hbs : Box M6 w7 bs 12 [.int .i64 (min q.length (h - 1))] 3 := hbs
    clear hst hs1 hs2 h37 e37 e11 e12
    (repeat (first
        | refine run_seq ?_
        | refine run_region_l ?_
        | refine rl_nil ?_
        | refine rl_step (by decide) (op_move rfl ?_)
        | refine rl_step (by decide) (op_assign rfl ?_)
        | refine run_block ?_
        | refine run_inBlock ?_
        | refine run_exit rfl ?_
        | refine run_skip ?_
        | refine run_label ?_
        | refine run_true rfl ?_
        | refine run_false rfl ?_
        | refine rl_yes rfl rfl ?_
        | refine rl_no rfl rfl rfl (by decide) ?_
        | refine rl_step (by decide) (op_pick_t rfl rfl ?_)
        | refine rl_step (by decide) (op_pick_f rfl rfl ?_)
        | refine rl_step (by decide) (op_lss rfl rfl ?_)
        | refine rl_step (by decide) (op_leq rfl rfl ?_)
        | refine rl_step (by decide) (op_gtr rfl rfl ?_)
        | refine rl_step (by decide) (op_geq rfl rfl ?_)
        | refine rl_step (by decide) (op_eql rfl rfl ?_)
        | refine rl_step (by decide) (op_neq rfl rfl ?_)
        | refine rl_step (by decide) (op_not rfl ?_)
        | refine rl_step (by decide) (op_min rfl rfl ?_)
        | refine rl_step (by decide) (op_max rfl rfl ?_)
        | refine rl_step (by decide) (op_extract rfl rfl ?_)
        | refine rl_step (by decide) (op_add rfl rfl (by omega) ?_)
        | refine rl_step (by decide) (op_sub rfl rfl (by omega) ?_)
        | refine rl_step (by decide) (op_neg rfl (by omega) ?_)))
    refine rl_step (by decide) (op_makeFunc (cap := [.tmp 5, .tmp 11, .tmp 12]) rfl ?_)
    refine rl_step (by decide) (op_alloc 13 hJ.rn tdF ?_)
    intro br w8 M8 hBr hbr hs1
    replace hbl := hbl.up hs1
    replace hbs := hbs.up hs1
    replace hJ := hJ.up hs1
    refine rl_step0 (op_store (c := [.func (.func 44) #[] #[ptr bh, ptr bl, ptr bs]]) tdF rfl rfl rfl (by simp [Value.oneCell']) rfl hJ.rn hBr hbr (by simp) ?_)
    intro w9 hbr hst
    replace hbl := hbl.st hst (by decide)
    replace hbs := hbs.st hst (by decide)
    replace hJ := hJ.st hst (by decide)
    replace hbr : Box M8 w9 br 13 [.func (.func 44) #[] #[ptr bh, ptr bl, ptr bs]] 63 := hbr
    clear hst hs1
    (repeat (first
        | refine run_seq ?_
        | refine run_region_l ?_
        | refine rl_nil ?_
        | refine rl_step (by decide) (op_move rfl ?_)
        | refine rl_step (by decide) (op_assign rfl ?_)
        | refine run_block ?_
        | refine run_inBlock ?_
        | refine run_exit rfl ?_
        | refine run_skip ?_
        | refine run_label ?_
        | refine run_true rfl ?_
        | refine run_false rfl ?_
        | refine rl_yes rfl rfl ?_
        | refine rl_no rfl rfl rfl (by decide) ?_
        | refine rl_step (by decide) (op_pick_t rfl rfl ?_)
        | refine rl_step (by decide) (op_pick_f rfl rfl ?_)
        | refine rl_step (by decide) (op_lss rfl rfl ?_)
        | refine rl_step (by decide) (op_leq rfl rfl ?_)
        | refine rl_step (by decide) (op_gtr rfl rfl ?_)
        | refine rl_step (by decide) (op_geq rfl rfl ?_)
        | refine rl_step (by decide) (op_eql rfl rfl ?_)
        | refine rl_step (by decide) (op_neq rfl rfl ?_)
        | refine rl_step (by decide) (op_not rfl ?_)
        | refine rl_step (by decide) (op_min rfl rfl ?_)
        | refine rl_step (by decide) (op_max rfl rfl ?_)
        | refine rl_step (by decide) (op_extract rfl rfl ?_)
        | refine rl_step (by decide) (op_add rfl rfl (by omega) ?_)
        | refine rl_step (by decide) (op_sub rfl rfl (by omega) ?_)
        | refine rl_step (by decide) (op_neg rfl (by omega) ?_)))
    refine rl_step (by decide) (op_makeFunc (cap := [.tmp 11, .tmp 3, .tmp 13, .tmp 12, .tmp 10]) rfl ?_)
    (repeat (first
        | refine run_seq ?_
        | refine run_region_l ?_
        | refine rl_nil ?_
        | refine rl_step (by decide) (op_move rfl ?_)
        | refine rl_step (by decide) (op_assign rfl ?_)
        | refine run_block ?_
        | refine run_inBlock ?_
        | refine run_exit rfl ?_
        | refine run_skip ?_
        | refine run_label ?_
        | refine run_true rfl ?_
        | refine run_false rfl ?_
        | refine rl_yes rfl rfl ?_
        | refine rl_no rfl rfl rfl (by decide) ?_
        | refine rl_step (by decide) (op_pick_t rfl rfl ?_)
        | refine rl_step (by decide) (op_pick_f rfl rfl ?_)
        | refine rl_step (by decide) (op_lss rfl rfl ?_)
        | refine rl_step (by decide) (op_leq rfl rfl ?_)
        | refine rl_step (by decide) (op_gtr rfl rfl ?_)
        | refine rl_step (by decide) (op_geq rfl rfl ?_)
        | refine rl_step (by decide) (op_eql rfl rfl ?_)
        | refine rl_step (by decide) (op_neq rfl rfl ?_)
        | refine rl_step (by decide) (op_not rfl ?_)
        | refine rl_step (by decide) (op_min rfl rfl ?_)
        | refine rl_step (by decide) (op_max rfl rfl ?_)
        | refine rl_step (by decide) (op_extract rfl rfl ?_)
        | refine rl_step (by decide) (op_add rfl rfl (by omega) ?_)
        | refine rl_step (by decide) (op_sub rfl rfl (by omega) ?_)
        | refine rl_step (by decide) (op_neg rfl (by omega) ?_)))
    refine (run_loop (α := FS) (fun x => [(1, vn), (3, ptr bb), (5, ptr bh), (9, vp), (10, ptr bq), (11, ptr bl), (12, ptr bs), (13, ptr br), (14, .func (.func 45) #[] #[ptr bl, ptr bb, ptr br, ptr bs, ptr bq])])
      (fun x w' => PgJ M w h notes vn bb bh bq x.M w' bd x.q ps vb x.vq vp ∧ Box x.M w' bl 11 [.int .i64 x.n] 3 ∧ Box x.M w' bs 12 [.int .i64 x.s] 3 ∧
        Box x.M w' br 13 [.func (.func 44) #[] #[ptr bh, ptr bl, ptr bs]] 63 ∧ (0 ≤ x.n ∧ x.n ≤ bd.length) ∧ (0 ≤ x.s ∧ x.s ≤ x.q.length) ∧ x.n + x.s + min x.s 1 ≤ h ∧ (x.s = 0 → x.q.length = 0) ∧
        x.q.length + sumR notes (bd.drop x.n.toNat) = q.length + sumR notes bd ∧ min (q.length : Int) (h - 1) ≤ x.s ∧ (x.n = 0 → x.s = min (q.length : Int) (h - 1) ∧ x.q = q) ∧
        fillM h notes (bd.drop x.n.toNat) x.n x.q x.s = fillM h notes bd 0 q (min q.length (h - 1)))
      (fun x => bd.length - x.n.toNat) ⟨0, min q.length (h - 1), q, vq, M8⟩
      ⟨hJ, hbl, hbs, hbr, ⟨by simp, by simp⟩, ⟨by simp only; omega, by simp only; omega⟩, by simp only; omega, by simp only; omega, by simp, by simp only; omega, fun _ => ⟨rfl, rfl⟩, by simp⟩ ?_).sub (by repeat (first | exact trivial | refine ⟨rfl, ?_⟩))
    clear hJ hbl hbs hbr
    rintro ⟨n, s, q1, vq1, M9⟩ w10 ⟨hJ, hbl, hbs, hbr, hn, hs, hfit, hs0, hsum, hmin, hn0, hfill⟩ ih2
    simp only at hJ hbl hbs hbr hn hs hfit hs0 hsum hmin hn0 hfill ih2
    try dsimp only
    (repeat (first
        | refine run_seq ?_
        | refine run_region_l ?_
        | refine rl_nil ?_
        | refine rl_step (by decide) (op_move rfl ?_)
        | refine rl_step (by decide) (op_assign rfl ?_)
        | refine run_block ?_
        | refine run_inBlock ?_
        | refine run_exit rfl ?_
        | refine run_skip ?_
        | refine run_label ?_
        | refine run_true rfl ?_
        | refine run_false rfl ?_
        | refine rl_yes rfl rfl ?_
        | refine rl_no rfl rfl rfl (by decide) ?_
        | refine rl_step (by decide) (op_pick_t rfl rfl ?_)
        | refine rl_step (by decide) (op_pick_f rfl rfl ?_)
        | refine rl_step (by decide) (op_lss rfl rfl ?_)
        | refine rl_step (by decide) (op_leq rfl rfl ?_)
        | refine rl_step (by decide) (op_gtr rfl rfl ?_)
        | refine rl_step (by decide) (op_geq rfl rfl ?_)
        | refine rl_step (by decide) (op_eql rfl rfl ?_)
        | refine rl_step (by decide) (op_neq rfl rfl ?_)
        | refine rl_step (by decide) (op_not rfl ?_)
        | refine rl_step (by decide) (op_min rfl rfl ?_)
        | refine rl_step (by decide) (op_max rfl rfl ?_)
        | refine rl_step (by decide) (op_extract rfl rfl ?_)
        | refine rl_step (by decide) (op_add rfl rfl (by omega) ?_)
        | refine rl_step (by decide) (op_sub rfl rfl (by omega) ?_)
        | refine rl_step (by decide) (op_neg rfl (by omega) ?_)))
    refine rl_step (by decide) (op_callv (cap := [ptr bl, ptr bb, ptr br, ptr bs, ptr bq]) ent45 rfl rfl (fits_c _ _ bb bh bq bl bs br vb vq1 h n s bd q1 (hJ.vars hbl hbs hbr) hJ.sb hJ.sq (by omega) (by omega) (by omega) hn.2) ?_)
    rintro r w11 ⟨rfl, hbel⟩
    have hs1 : UpM M9 w10 M9 w11 := UpM.of_below hbel
    replace hbl := hbl.up hs1
    replace hbs := hbs.up hs1
    replace hbr := hbr.up hs1
    replace hJ := hJ.up hs1
    clear hs1 hbel
    (repeat (first
        | refine run_seq ?_
        | refine run_region_l ?_
        | refine rl_nil ?_
        | refine rl_step (by decide) (op_move rfl ?_)
        | refine rl_step (by decide) (op_assign rfl ?_)
        | refine run_block ?_
        | refine run_inBlock ?_
        | refine run_exit rfl ?_
        | refine run_skip ?_
        | refine run_label ?_
        | refine run_true rfl ?_
        | refine run_false rfl ?_
        | refine rl_yes rfl rfl ?_
        | refine rl_no rfl rfl rfl (by decide) ?_
        | refine rl_step (by decide) (op_pick_t rfl rfl ?_)
        | refine rl_step (by decide) (op_pick_f rfl rfl ?_)
        | refine rl_step (by decide) (op_lss rfl rfl ?_)
        | refine rl_step (by decide) (op_leq rfl rfl ?_)
        | refine rl_step (by decide) (op_gtr rfl rfl ?_)
        | refine rl_step (by decide) (op_geq rfl rfl ?_)
        | refine rl_step (by decide) (op_eql rfl rfl ?_)
        | refine rl_step (by decide) (op_neq rfl rfl ?_)
        | refine rl_step (by decide) (op_not rfl ?_)
        | refine rl_step (by decide) (op_min rfl rfl ?_)
        | refine rl_step (by decide) (op_max rfl rfl ?_)
        | refine rl_step (by decide) (op_extract rfl rfl ?_)
        | refine rl_step (by decide) (op_add rfl rfl (by omega) ?_)
        | refine rl_step (by decide) (op_sub rfl rfl (by omega) ?_)
        | refine rl_step (by decide) (op_neg rfl (by omega) ?_)))
    refine run_ifb rfl (fun hb => ?_) (fun hb => ?_)
    · have hlt : n.toNat < bd.length := by
        rcases Nat.lt_or_ge n.toNat bd.length with h' | h'
        · exact h'
        · rw [List.getElem?_eq_none h'] at hb; cases hb
      rw [List.getElem?_eq_getElem hlt] at hb
      simp only at hb
      rw [List.drop_eq_getElem_cons hlt, fillM, if_pos hb] at hfill
      rw [sumR_drop notes bd _ hlt] at hsum
      have hfb := fits_bd hb hs.1 (fun e => by have := hs0 e; omega)
      have hmr : ∀ i ∈ bd[n.toNat].notes, 0 ≤ i ∧ i < notes.length := fun i hi => hJ.hr i (mem_refs hlt hi)
      (repeat (first
          | refine run_seq ?_
          | refine run_region_l ?_
          | refine rl_nil ?_
          | refine rl_step (by decide) (op_move rfl ?_)
          | refine rl_step (by decide) (op_assign rfl ?_)
          | refine run_block ?_
          | refine run_inBlock ?_
          | refine run_exit rfl ?_
          | refine run_skip ?_
          | refine run_label ?_
          | refine run_true rfl ?_
          | refine run_false rfl ?_
          | refine rl_yes rfl rfl ?_
          | refine rl_no rfl rfl rfl (by decide) ?_
          | refine rl_step (by decide) (op_pick_t rfl rfl ?_)
          | refine rl_step (by decide) (op_pick_f rfl rfl ?_)
          | refine rl_step (by decide) (op_lss rfl rfl ?_)
          | refine rl_step (by decide) (op_leq rfl rfl ?_)
          | refine rl_step (by decide) (op_gtr rfl rfl ?_)
          | refine rl_step (by decide) (op_geq rfl rfl ?_)
          | refine rl_step (by decide) (op_eql rfl rfl ?_)
          | refine rl_step (by decide) (op_neq rfl rfl ?_)
          | refine rl_step (by decide) (op_not rfl ?_)
          | refine rl_step (by decide) (op_min rfl rfl ?_)
          | refine rl_step (by decide) (op_max rfl rfl ?_)
          | refine rl_step (by decide) (op_extract rfl rfl ?_)
          | refine rl_step (by decide) (op_add rfl rfl (by omega) ?_)
          | refine rl_step (by decide) (op_sub rfl rfl (by omega) ?_)
          | refine rl_step (by decide) (op_neg rfl (by omega) ?_)))
      refine rl_step (by decide) (op_load1 tdSL rfl hJ.bb rfl ?_)
      refine rl_step (by decide) (op_load1 tdI rfl hbl rfl ?_)
      refine rl_step (by decide) (op_indexAddr uL teL rfl rfl hJ.sb (by omega) ?_)
      intro ad _ he
      refine rl_step (by decide) (op_fieldAddr fdL3 rfl ?_)
      refine rl_step (by decide) (op_load teSI rfl he.line.2.2.2 ?_)
      intro vl hvl
      rw [eSl_V] at hvl
      refine rl_step (by decide) (op_len uI rfl hvl ?_)
      clear he
      generalize hL : bd[n.toNat].notes = L at hvl hfill hsum hfb hmr
      (repeat (first
          | refine run_seq ?_
          | refine run_region_l ?_
          | refine rl_nil ?_
          | refine rl_step (by decide) (op_move rfl ?_)
          | refine rl_step (by decide) (op_assign rfl ?_)
          | refine run_block ?_
          | refine run_inBlock ?_
          | refine run_exit rfl ?_
          | refine run_skip ?_
          | refine run_label ?_
          | refine run_true rfl ?_
          | refine run_false rfl ?_
          | refine rl_yes rfl rfl ?_
          | refine rl_no rfl rfl rfl (by decide) ?_
          | refine rl_step (by decide) (op_pick_t rfl rfl ?_)
          | refine rl_step (by decide) (op_pick_f rfl rfl ?_)
          | refine rl_step (by decide) (op_lss rfl rfl ?_)
          | refine rl_step (by decide) (op_leq rfl rfl ?_)
          | refine rl_step (by decide) (op_gtr rfl rfl ?_)
          | refine rl_step (by decide) (op_geq rfl rfl ?_)
          | refine rl_step (by decide) (op_eql rfl rfl ?_)
          | refine rl_step (by decide) (op_neq rfl rfl ?_)
          | refine rl_step (by decide) (op_not rfl ?_)
          | refine rl_step (by decide) (op_min rfl rfl ?_)
          | refine rl_step (by decide) (op_max rfl rfl ?_)
          | refine rl_step (by decide) (op_extract rfl rfl ?_)
          | refine rl_step (by decide) (op_add rfl rfl (by omega) ?_)
          | refine rl_step (by decide) (op_sub rfl rfl (by omega) ?_)
          | refine rl_step (by decide) (op_neg rfl (by omega) ?_)))
      have hnot : ∀ j, j ≤ L.length → q1.length + ((L.take j).flatMap (noteAt notes)).length ≤ 2000000 := fun j _ => by
        have := flat_take_le (noteAt notes) L j
        omega
      have hlL := hvl.le
      refine (run_loop (α := Nat × List Line × Value × Mut) (fun x => [(1, vn), (3, ptr bb), (5, ptr bh), (9, vp), (10, ptr bq), (11, ptr bl), (12, ptr bs), (13, ptr br), (14, .func (.func 45) #[] #[ptr bl, ptr bb, ptr br, ptr bs, ptr bq]), (46, vl), (47, .int .i64 L.length), (48, .int .i64 x.1)])
        (fun x w' => x.1 ≤ L.length ∧ PgJ M w h notes vn bb bh bq x.2.2.2 w' bd x.2.1 ps vb x.2.2.1 vp ∧ Box x.2.2.2 w' bl 11 [.int .i64 n] 3 ∧ Box x.2.2.2 w' bs 12 [.int .i64 s] 3 ∧
          Box x.2.2.2 w' br 13 [.func (.func 44) #[] #[ptr bh, ptr bl, ptr bs]] 63 ∧ SlOf eI x.2.2.2 w' vl L ∧ x.2.1 = q1 ++ (L.take x.1).flatMap (noteAt notes))
        (fun x => L.length - x.1) (0, q1, vq1, M9) ⟨Nat.zero_le _, hJ, hbl, hbs, hbr, hvl, by simp⟩ ?_).sub (by repeat (first | exact trivial | refine ⟨rfl, ?_⟩))
      clear hJ hbl hbs hbr hvl
      rintro ⟨j, q2, vq2, M10⟩ w12 ⟨hj, hJ, hbl, hbs, hbr, hvl, hq2⟩ ih3
      simp only at hj hJ hbl hbs hbr hvl hq2 ih3
      try dsimp only
      (repeat (first
          | refine run_seq ?_
          | refine run_region_l ?_
          | refine rl_nil ?_
          | refine rl_step (by decide) (op_move rfl ?_)
          | refine rl_step (by decide) (op_assign rfl ?_)
          | refine run_block ?_
          | refine run_inBlock ?_
          | refine run_exit rfl ?_
          | refine run_skip ?_
          | refine run_label ?_
          | refine run_true rfl ?_
          | refine run_false rfl ?_
          | refine rl_yes rfl rfl ?_
          | refine rl_no rfl rfl rfl (by decide) ?_
          | refine rl_step (by decide) (op_pick_t rfl rfl ?_)
          | refine rl_step (by decide) (op_pick_f rfl rfl ?_)
          | refine rl_step (by decide) (op_lss rfl rfl ?_)
          | refine rl_step (by decide) (op_leq rfl rfl ?_)
          | refine rl_step (by decide) (op_gtr rfl rfl ?_)
          | refine rl_step (by decide) (op_geq rfl rfl ?_)
          | refine rl_step (by decide) (op_eql rfl rfl ?_)
          | refine rl_step (by decide) (op_neq rfl rfl ?_)
          | refine rl_step (by decide) (op_not rfl ?_)
          | refine rl_step (by decide) (op_min rfl rfl ?_)
          | refine rl_step (by decide) (op_max rfl rfl ?_)
          | refine rl_step (by decide) (op_extract rfl rfl ?_)
          | refine rl_step (by decide) (op_add rfl rfl (by omega) ?_)
          | refine rl_step (by decide) (op_sub rfl rfl (by omega) ?_)
          | refine rl_step (by decide) (op_neg rfl (by omega) ?_)))
      refine run_if rfl (fun hlt2 => ?_) (fun hlt2 => ?_)
      · have hj' : j < L.length := by omega
        have hmr' := hmr L[j] (List.getElem_mem hj')
        have hnl := hnot (j + 1) (by omega)
        rw [flat_take _ _ _ hj', List.length_append] at hnl
        (repeat (first
            | refine run_seq ?_
            | refine run_region_l ?_
            | refine rl_nil ?_
            | refine rl_step (by decide) (op_move rfl ?_)
            | refine rl_step (by decide) (op_assign rfl ?_)
            | refine run_block ?_
            | refine run_inBlock ?_
            | refine run_exit rfl ?_
            | refine run_skip ?_
            | refine run_label ?_
            | refine run_true rfl ?_
            | refine run_false rfl ?_
            | refine rl_yes rfl rfl ?_
            | refine rl_no rfl rfl rfl (by decide) ?_
            | refine rl_step (by decide) (op_pick_t rfl rfl ?_)
            | refine rl_step (by decide) (op_pick_f rfl rfl ?_)
            | refine rl_step (by decide) (op_lss rfl rfl ?_)
            | refine rl_step (by decide) (op_leq rfl rfl ?_)
            | refine rl_step (by decide) (op_gtr rfl rfl ?_)
            | refine rl_step (by decide) (op_geq rfl rfl ?_)
            | refine rl_step (by decide) (op_eql rfl rfl ?_)
            | refine rl_step (by decide) (op_neq rfl rfl ?_)
            | refine rl_step (by decide) (op_not rfl ?_)
            | refine rl_step (by decide) (op_min rfl rfl ?_)
            | refine rl_step (by decide) (op_max rfl rfl ?_)
            | refine rl_step (by decide) (op_extract rfl rfl ?_)
            | refine rl_step (by decide) (op_add rfl rfl (by omega) ?_)
            | refine rl_step (by decide) (op_sub rfl rfl (by omega) ?_)
            | refine rl_step (by decide) (op_neg rfl (by omega) ?_)))
        refine rl_step (by decide) (op_indexAddr uI teI rfl rfl hvl (by omega) ?_)
        intro ad2 _ he2
        refine rl_step (by decide) (op_load teI rfl he2 ?_)
        intro u hu
        rw [eI_V] at hu
        obtain ⟨rfl, hu5⟩ := hu
        simp only [Int.toNat_natCast]
        (repeat (first
            | refine run_seq ?_
            | refine run_region_l ?_
            | refine rl_nil ?_
            | refine rl_step (by decide) (op_move rfl ?_)
            | refine rl_step (by decide) (op_assign rfl ?_)
            | refine run_block ?_
            | refine run_inBlock ?_
            | refine run_exit rfl ?_
            | refine run_skip ?_
            | refine run_label ?_
            | refine run_true rfl ?_
            | refine run_false rfl ?_
            | refine rl_yes rfl rfl ?_
            | refine rl_no rfl rfl rfl (by decide) ?_
            | refine rl_step (by decide) (op_pick_t rfl rfl ?_)
            | refine rl_step (by decide) (op_pick_f rfl rfl ?_)
            | refine rl_step (by decide) (op_lss rfl rfl ?_)
            | refine rl_step (by decide) (op_leq rfl rfl ?_)
            | refine rl_step (by decide) (op_gtr rfl rfl ?_)
            | refine rl_step (by decide) (op_geq rfl rfl ?_)
            | refine rl_step (by decide) (op_eql rfl rfl ?_)
            | refine rl_step (by decide) (op_neq rfl rfl ?_)
            | refine rl_step (by decide) (op_not rfl ?_)
            | refine rl_step (by decide) (op_min rfl rfl ?_)
            | refine rl_step (by decide) (op_max rfl rfl ?_)
            | refine rl_step (by decide) (op_extract rfl rfl ?_)
            | refine rl_step (by decide) (op_add rfl rfl (by omega) ?_)
            | refine rl_step (by decide) (op_sub rfl rfl (by omega) ?_)
            | refine rl_step (by decide) (op_neg rfl (by omega) ?_)))
        refine region_dr (M := M10) 5 2 [] mixed rfl (by kernel_rfl) (fun w1 hs1 => ?_)
        replace hbl := hbl.up hs1
        replace hbs := hbs.up hs1
        replace hbr := hbr.up hs1
        replace hvl := hvl.mono hs1.x
        replace hJ := hJ.up hs1
        clear hs1 he2
        refine dr_cons (isv vq2) (by decide) (mono_isv _) (ob0 rfl fun M w' hs => opg (op_load1 tdSL rfl (hJ.bq.up hs) rfl ⟨_, UpM.refl _ _, rfl⟩)) ?_
        refine dr_cons (isv _) (by decide) (mono_isv _) (ob0 rfl fun M w hs => opg (op_move rfl ⟨_, UpM.refl _ _, rfl⟩)) ?_
        refine dr_cons (isv _) (by decide) (mono_isv _) (ob0 rfl fun M w hs => opg (op_move rfl ⟨_, UpM.refl _ _, rfl⟩)) ?_
        refine dr_cons (isPtr (eSl eLine) (noteAt notes L[j])) (by decide) (mono_isPtr _ _) (ob2 rfl fun M w' hs2 v1 h1 v2 h2 => ?_) ?_
        · cases h1; cases h2
          refine opg (op_indexAddr uLL teSL rfl rfl (hJ.sn.mono hs2.x) hmr' ?_)
          intro ad3 hn3 he3
          exact ⟨_, UpM.refl _ _, ad3, rfl, by rw [noteAt_get hn3]; exact he3⟩
        refine dr_cons (isSl eLine (noteAt notes L[j])) (by decide) (mono_isSl _ _) (ob1 rfl fun M w' hs2 v1 h1 => ?_) ?_
        · obtain ⟨ad3, rfl, he3⟩ := h1
          exact opg (op_load teSL rfl he3 fun u hu => ⟨_, UpM.refl _ _, eSl_V.1 hu⟩)
        refine dr_nil rfl (fun M11 w14 val hs2 hall2 => ?_)
        obtain ⟨h56, _, _, _, h52, _⟩ := hall2
        have e52 : val 52 = _ := h52
        replace hbl := hbl.up hs2
        replace hbs := hbs.up hs2
        replace hbr := hbr.up hs2
        replace hvl := hvl.mono hs2.x
        replace hJ := hJ.up hs2
        refine RT.sub (fr' := [(1, vn), (3, ptr bb), (5, ptr bh), (9, vp), (10, ptr bq), (11, ptr bl), (12, ptr bs), (13, ptr br), (14, .func (.func 45) #[] #[ptr bl, ptr bb, ptr br, ptr bs, ptr bq]), (46, vl), (47, .int .i64 L.length), (48, .int .i64 j), (52, val 52), (56, val 56)]) ?_ (by repeat (first | exact trivial | refine ⟨rfl, ?_⟩))
        rw [e52]
        generalize val 56 = v56 at h56
        clear hs2 h52 e52
        refine rt_one (i := 5) (by kernel_rfl) rfl (by decide) (op_append (E := eLine) (tag := 4) uL teL rfl rfl hJ.rn hJ.sq hJ.gq h56 (by rw [hq2, List.length_append]; show _ * 64 ≤ _; omega) ?_)
        intro vq3 w15 M12 hsq hgq hst
        obtain ⟨a3, c3, q3, _⟩ := hsq.ex
        refine rt_one0 (i := 6) (by kernel_rfl) rfl (op_store (c := [vq3]) tdSL rfl rfl (by rw [q3]; rfl) (by rw [q3]; simp [Value.oneCell']) rfl (hJ.rn.st hst) hBq (hJ.bq.st hst (by decide)) (by simp) ?_)
        intro w16 hbq hst2
        have hJ' : PgJ M w h notes vn bb bh bq M12 w16 bd (q2 ++ noteAt notes L[j]) ps vb vq3 vp :=
          ⟨(hJ.rn.st hst).st hst2, (hJ.bb.st hst (by decide)).st hst2 (by decide), (hJ.bh.st hst (by decide)).st hst2 (by decide), hbq, (hJ.sb.mono hst.x).mono hst2.x, hsq.mono hst2.x, hgq.st hst2 (by decide),
            (hJ.sp.mono hst.x).mono hst2.x, (hJ.gp.st hst (by decide)).st hst2 (by decide), (hJ.sn.mono hst.x).mono hst2.x, hJ.hr⟩
        replace hbl := (hbl.st hst (by decide)).st hst2 (by decide)
        replace hbs := (hbs.st hst (by decide)).st hst2 (by decide)
        replace hbr := (hbr.st hst (by decide)).st hst2 (by decide)
        replace hvl := (hvl.mono hst.x).mono hst2.x
        refine rt_nil (by kernel_rfl) ?_
        (repeat (first
            | refine run_seq ?_
            | refine run_region_l ?_
            | refine rl_nil ?_
            | refine rl_step (by decide) (op_move rfl ?_)
            | refine rl_step (by decide) (op_assign rfl ?_)
            | refine run_block ?_
            | refine run_inBlock ?_
            | refine run_exit rfl ?_
            | refine run_skip ?_
            | refine run_label ?_
            | refine run_true rfl ?_
            | refine run_false rfl ?_
            | refine rl_yes rfl rfl ?_
            | refine rl_no rfl rfl rfl (by decide) ?_
            | refine rl_step (by decide) (op_pick_t rfl rfl ?_)
            | refine rl_step (by decide) (op_pick_f rfl rfl ?_)
            | refine rl_step (by decide) (op_lss rfl rfl ?_)
            | refine rl_step (by decide) (op_leq rfl rfl ?_)
            | refine rl_step (by decide) (op_gtr rfl rfl ?_)
            | refine rl_step (by decide) (op_geq rfl rfl ?_)
            | refine rl_step (by decide) (op_eql rfl rfl ?_)
            | refine rl_step (by decide) (op_neq rfl rfl ?_)
            | refine rl_step (by decide) (op_not rfl ?_)
            | refine rl_step (by decide) (op_min rfl rfl ?_)
            | refine rl_step (by decide) (op_max rfl rfl ?_)
            | refine rl_step (by decide) (op_extract rfl rfl ?_)
            | refine rl_step (by decide) (op_add rfl rfl (by omega) ?_)
            | refine rl_step (by decide) (op_sub rfl rfl (by omega) ?_)
            | refine rl_step (by decide) (op_neg rfl (by omega) ?_)))
        exact (ih3 (j + 1, _, _, _) _ ⟨by show j + 1 ≤ _; omega, hJ', hbl, hbs, hbr, hvl, by show _ = _; rw [hq2, flat_take _ _ _ hj', List.append_assoc]⟩ (by show _ - (j + 1) < _ - j; omega)).sub (by repeat (first | exact trivial | refine ⟨rfl, ?_⟩))
      · have hjL : j = L.length := by omega
        subst hjL
        rw [List.take_length] at hq2
        have hq2l : q2.length = q1.length + (L.flatMap (noteAt notes)).length := by rw [hq2, List.length_append]
        have hgb := growM_bd h (n + 1) s q2.length hs.1 (by omega) hfb.1 (fun e1 e2 => by
          rcases hfb.2 with h3 | h3
          · have := hs0 e1
            rw [h3] at hq2l
            simp at hq2l
            omega
          · omega)
        rw [← hq2] at hfill
        (repeat (first
            | refine run_seq ?_
            | refine run_region_l ?_
            | refine rl_nil ?_
            | refine rl_step (by decide) (op_move rfl ?_)
            | refine rl_step (by decide) (op_assign rfl ?_)
            | refine run_block ?_
            | refine run_inBlock ?_
            | refine run_exit rfl ?_
            | refine run_skip ?_
            | refine run_label ?_
            | refine run_true rfl ?_
            | refine run_false rfl ?_
            | refine rl_yes rfl rfl ?_
            | refine rl_no rfl rfl rfl (by decide) ?_
            | refine rl_step (by decide) (op_pick_t rfl rfl ?_)
            | refine rl_step (by decide) (op_pick_f rfl rfl ?_)
            | refine rl_step (by decide) (op_lss rfl rfl ?_)
            | refine rl_step (by decide) (op_leq rfl rfl ?_)
            | refine rl_step (by decide) (op_gtr rfl rfl ?_)
            | refine rl_step (by decide) (op_geq rfl rfl ?_)
            | refine rl_step (by decide) (op_eql rfl rfl ?_)
            | refine rl_step (by decide) (op_neq rfl rfl ?_)
            | refine rl_step (by decide) (op_not rfl ?_)
            | refine rl_step (by decide) (op_min rfl rfl ?_)
            | refine rl_step (by decide) (op_max rfl rfl ?_)
            | refine rl_step (by decide) (op_extract rfl rfl ?_)
            | refine rl_step (by decide) (op_add rfl rfl (by omega) ?_)
            | refine rl_step (by decide) (op_sub rfl rfl (by omega) ?_)
            | refine rl_step (by decide) (op_neg rfl (by omega) ?_)))
        refine rl_step (by decide) (op_load1 tdI rfl hbl rfl ?_)
        (repeat (first
            | refine run_seq ?_
            | refine run_region_l ?_
            | refine rl_nil ?_
            | refine rl_step (by decide) (op_move rfl ?_)
            | refine rl_step (by decide) (op_assign rfl ?_)
            | refine run_block ?_
            | refine run_inBlock ?_
            | refine run_exit rfl ?_
            | refine run_skip ?_
            | refine run_label ?_
            | refine run_true rfl ?_
            | refine run_false rfl ?_
            | refine rl_yes rfl rfl ?_
            | refine rl_no rfl rfl rfl (by decide) ?_
            | refine rl_step (by decide) (op_pick_t rfl rfl ?_)
            | refine rl_step (by decide) (op_pick_f rfl rfl ?_)
            | refine rl_step (by decide) (op_lss rfl rfl ?_)
            | refine rl_step (by decide) (op_leq rfl rfl ?_)
            | refine rl_step (by decide) (op_gtr rfl rfl ?_)
            | refine rl_step (by decide) (op_geq rfl rfl ?_)
            | refine rl_step (by decide) (op_eql rfl rfl ?_)
            | refine rl_step (by decide) (op_neq rfl rfl ?_)
            | refine rl_step (by decide) (op_not rfl ?_)
            | refine rl_step (by decide) (op_min rfl rfl ?_)
            | refine rl_step (by decide) (op_max rfl rfl ?_)
            | refine rl_step (by decide) (op_extract rfl rfl ?_)
            | refine rl_step (by decide) (op_add rfl rfl (by omega) ?_)
            | refine rl_step (by decide) (op_sub rfl rfl (by omega) ?_)
            | refine rl_step (by decide) (op_neg rfl (by omega) ?_)))
        refine rl_step0 (op_store (c := [.int .i64 (n + 1)]) tdI rfl rfl rfl (by simp [Value.oneCell']) rfl hJ.rn hBl hbl (by simp) ?_)
        intro w13 hbl hst
        replace hbl : Box M10 w13 bl 11 [.int .i64 (n + 1)] 3 := hbl
        replace hbs := hbs.st hst (by decide)
        replace hbr := hbr.st hst (by decide)
        replace hJ := hJ.st hst (by decide)
        clear hst hvl
        (repeat (first
            | refine run_seq ?_
            | refine run_region_l ?_
            | refine rl_nil ?_
            | refine rl_step (by decide) (op_move rfl ?_)
            | refine rl_step (by decide) (op_assign rfl ?_)
            | refine run_block ?_
            | refine run_inBlock ?_
            | refine run_exit rfl ?_
            | refine run_skip ?_
            | refine run_label ?_
            | refine run_true rfl ?_
            | refine run_false rfl ?_
            | refine rl_yes rfl rfl ?_
            | refine rl_no rfl rfl rfl (by decide) ?_
            | refine rl_step (by decide) (op_pick_t rfl rfl ?_)
            | refine rl_step (by decide) (op_pick_f rfl rfl ?_)
            | refine rl_step (by decide) (op_lss rfl rfl ?_)
            | refine rl_step (by decide) (op_leq rfl rfl ?_)
            | refine rl_step (by decide) (op_gtr rfl rfl ?_)
            | refine rl_step (by decide) (op_geq rfl rfl ?_)
            | refine rl_step (by decide) (op_eql rfl rfl ?_)
            | refine rl_step (by decide) (op_neq rfl rfl ?_)
            | refine rl_step (by decide) (op_not rfl ?_)
            | refine rl_step (by decide) (op_min rfl rfl ?_)
            | refine rl_step (by decide) (op_max rfl rfl ?_)
            | refine rl_step (by decide) (op_extract rfl rfl ?_)
            | refine rl_step (by decide) (op_add rfl rfl (by omega) ?_)
            | refine rl_step (by decide) (op_sub rfl rfl (by omega) ?_)
            | refine rl_step (by decide) (op_neg rfl (by omega) ?_)))
        refine rl_step (by decide) (op_load1 tdSL rfl hJ.bq rfl ?_)
        refine rl_step (by decide) (op_len uL rfl hJ.sq ?_)
        refine rl_step (by decide) (op_load1 tdI rfl hbs rfl ?_)
        (repeat (first
            | refine run_seq ?_
            | refine run_region_l ?_
            | refine rl_nil ?_
            | refine rl_step (by decide) (op_move rfl ?_)
            | refine rl_step (by decide) (op_assign rfl ?_)
            | refine run_block ?_
            | refine run_inBlock ?_
            | refine run_exit rfl ?_
            | refine run_skip ?_
            | refine run_label ?_
            | refine run_true rfl ?_
            | refine run_false rfl ?_
            | refine rl_yes rfl rfl ?_
            | refine rl_no rfl rfl rfl (by decide) ?_
            | refine rl_step (by decide) (op_pick_t rfl rfl ?_)
            | refine rl_step (by decide) (op_pick_f rfl rfl ?_)
            | refine rl_step (by decide) (op_lss rfl rfl ?_)
            | refine rl_step (by decide) (op_leq rfl rfl ?_)
            | refine rl_step (by decide) (op_gtr rfl rfl ?_)
            | refine rl_step (by decide) (op_geq rfl rfl ?_)
            | refine rl_step (by decide) (op_eql rfl rfl ?_)
            | refine rl_step (by decide) (op_neq rfl rfl ?_)
            | refine rl_step (by decide) (op_not rfl ?_)
            | refine rl_step (by decide) (op_min rfl rfl ?_)
            | refine rl_step (by decide) (op_max rfl rfl ?_)
            | refine rl_step (by decide) (op_extract rfl rfl ?_)
            | refine rl_step (by decide) (op_add rfl rfl (by omega) ?_)
            | refine rl_step (by decide) (op_sub rfl rfl (by omega) ?_)
            | refine rl_step (by decide) (op_neg rfl (by omega) ?_)))
        refine run_if rfl (fun hmore => ?_) (fun hmore => ?_)
        · (repeat (first
              | refine run_seq ?_
              | refine run_region_l ?_
              | refine rl_nil ?_
              | refine rl_step (by decide) (op_move rfl ?_)
              | refine rl_step (by decide) (op_assign rfl ?_)
              | refine run_block ?_
              | refine run_inBlock ?_
              | refine run_exit rfl ?_
              | refine run_skip ?_
              | refine run_label ?_
              | refine run_true rfl ?_
              | refine run_false rfl ?_
              | refine rl_yes rfl rfl ?_
              | refine rl_no rfl rfl rfl (by decide) ?_
              | refine rl_step (by decide) (op_pick_t rfl rfl ?_)
              | refine rl_step (by decide) (op_pick_f rfl rfl ?_)
              | refine rl_step (by decide) (op_lss rfl rfl ?_)
              | refine rl_step (by decide) (op_leq rfl rfl ?_)
              | refine rl_step (by decide) (op_gtr rfl rfl ?_)
              | refine rl_step (by decide) (op_geq rfl rfl ?_)
              | refine rl_step (by decide) (op_eql rfl rfl ?_)
              | refine rl_step (by decide) (op_neq rfl rfl ?_)
              | refine rl_step (by decide) (op_not rfl ?_)
              | refine rl_step (by decide) (op_min rfl rfl ?_)
              | refine rl_step (by decide) (op_max rfl rfl ?_)
              | refine rl_step (by decide) (op_extract rfl rfl ?_)
              | refine rl_step (by decide) (op_add rfl rfl (by omega) ?_)
              | refine rl_step (by decide) (op_sub rfl rfl (by omega) ?_)
              | refine rl_step (by decide) (op_neg rfl (by omega) ?_)))
          refine region_dr (M := M10) 10 1 [] mixed rfl (by kernel_rfl) (fun w1 hs1 => ?_)
          replace hbl := hbl.up hs1
          replace hbs := hbs.up hs1
          replace hbr := hbr.up hs1
          replace hJ := hJ.up hs1
          clear hs1
          refine dr_cons (isv (.int .i64 s)) (by decide) (mono_isv _) (ob0 rfl fun M w' hs2 => opg (op_load1 tdI rfl (hbs.up hs2) rfl ⟨_, UpM.refl _ _, rfl⟩)) ?_
          refine dr_cons (isv _) (by decide) (mono_isv _) (ob0 rfl fun M w hs => opg (op_move rfl ⟨_, UpM.refl _ _, rfl⟩)) ?_
          refine dr_cons (isv (.func (.func 44) #[] #[ptr bh, ptr bl, ptr bs])) (by decide) (mono_isv _) (ob0 rfl fun M w' hs2 => opg (op_load1 tdF rfl (hbr.up hs2) rfl ⟨_, UpM.refl _ _, rfl⟩)) ?_
          refine dr_cons (isv (.int .i64 (h - (n + 1) - s - min s 1))) (by decide) (mono_isv _) (ob1 rfl fun M w' hs2 v1 k1 => ?_) ?_
          · cases k1
            refine opg (op_callv (cap := [ptr bh, ptr bl, ptr bs]) ent44 rfl rfl (room_c M w' bh bl bs 5 11 12 h (n + 1) s (hJ.bh.up hs2) (hbl.up hs2) (hbs.up hs2) (by omega) (by omega) (by omega)) ?_)
            rintro r w1 ⟨rfl, rfl⟩
            exact ⟨_, UpM.refl _ _, rfl⟩
          refine dr_cons (isv (.int .i64 (h - (n + 1) - s - min s 1 - 1))) (by decide) (mono_isv _) (ob1 rfl fun M w' hs2 v1 k1 => ?_) ?_
          · cases k1; exact opg (op_sub rfl rfl (by omega) ⟨_, UpM.refl _ _, rfl⟩)
          refine dr_cons (isv (.int .i64 s)) (by decide) (mono_isv _) (ob0 rfl fun M w' hs2 => opg (op_load1 tdI rfl (hbs.up hs2) rfl ⟨_, UpM.refl _ _, rfl⟩)) ?_
          refine dr_cons (isv (.int .i64 (min s 1))) (by decide) (mono_isv _) (ob1 rfl fun M w' hs2 v1 k1 => ?_) ?_
          · cases k1; exact opg (op_min rfl rfl ⟨_, UpM.refl _ _, rfl⟩)
          refine dr_cons (isv (.int .i64 (h - (n + 1) - s - min s 1 - 1 + min s 1))) (by decide) (mono_isv _) (ob2 rfl fun M w' hs2 v1 k1 v2 k2 => ?_) ?_
          · cases k1; cases k2; exact opg (op_add rfl rfl (by omega) ⟨_, UpM.refl _ _, rfl⟩)
          refine dr_cons (isv (.int .i64 (min (q2.length - s) (h - (n + 1) - s - min s 1 - 1 + min s 1)))) (by decide) (mono_isv _) (ob2 rfl fun M w' hs2 v1 k1 v2 k2 => ?_) ?_
          · cases k1; cases k2; exact opg (op_min rfl rfl ⟨_, UpM.refl _ _, rfl⟩)
          refine dr_cons (isv (.int .i64 (s + min (q2.length - s) (h - (n + 1) - s - min s 1 - 1 + min s 1)))) (by decide) (mono_isv _) (ob2 rfl fun M w' hs2 v1 k1 v2 k2 => ?_) ?_
          · cases k1; cases k2; exact opg (op_add rfl rfl (by omega) ⟨_, UpM.refl _ _, rfl⟩)
          refine dr_nil rfl (fun M11 w14 val hs2 hall2 => ?_)
          obtain ⟨h76, _⟩ := hall2
          have e76 : val 76 = _ := h76
          replace hbl := hbl.up hs2
          replace hbs := hbs.up hs2
          replace hbr := hbr.up hs2
          replace hJ := hJ.up hs2
          have hg : growM h (n + 1) s q2.length = s + min (q2.length - s) (h - (n + 1) - s - min s 1 - 1 + min s 1) := if_pos hmore
          rw [← hg] at e76
          refine RT.sub (fr' := [(1, vn), (3, ptr bb), (5, ptr bh), (9, vp), (10, ptr bq), (11, ptr bl), (12, ptr bs), (13, ptr br), (14, .func (.func 45) #[] #[ptr bl, ptr bb, ptr br, ptr bs, ptr bq]), (76, val 76)]) ?_ (by repeat (first | exact trivial | refine ⟨rfl, ?_⟩))
          rw [e76]
          clear hs2 h76 e76 hg
          refine rt_one0 (i := 10) (by kernel_rfl) rfl (op_store (c := [.int .i64 (growM h (n + 1) s q2.length)]) tdI rfl rfl rfl (by simp [Value.oneCell']) rfl hJ.rn hBs hbs (by simp) ?_)
          intro w15 hbs hst
          replace hbs : Box M11 w15 bs 12 [.int .i64 (growM h (n + 1) s q2.length)] 3 := hbs
          replace hbl := hbl.st hst (by decide)
          replace hbr := hbr.st hst (by decide)
          replace hJ := hJ.st hst (by decide)
          refine rt_nil (by kernel_rfl) ?_
          (repeat (first
              | refine run_seq ?_
              | refine run_region_l ?_
              | refine rl_nil ?_
              | refine rl_step (by decide) (op_move rfl ?_)
              | refine rl_step (by decide) (op_assign rfl ?_)
              | refine run_block ?_
              | refine run_inBlock ?_
              | refine run_exit rfl ?_
              | refine run_skip ?_
              | refine run_label ?_
              | refine run_true rfl ?_
              | refine run_false rfl ?_
              | refine rl_yes rfl rfl ?_
              | refine rl_no rfl rfl rfl (by decide) ?_
              | refine rl_step (by decide) (op_pick_t rfl rfl ?_)
              | refine rl_step (by decide) (op_pick_f rfl rfl ?_)
              | refine rl_step (by decide) (op_lss rfl rfl ?_)
              | refine rl_step (by decide) (op_leq rfl rfl ?_)
              | refine rl_step (by decide) (op_gtr rfl rfl ?_)
              | refine rl_step (by decide) (op_geq rfl rfl ?_)
              | refine rl_step (by decide) (op_eql rfl rfl ?_)
              | refine rl_step (by decide) (op_neq rfl rfl ?_)
              | refine rl_step (by decide) (op_not rfl ?_)
              | refine rl_step (by decide) (op_min rfl rfl ?_)
              | refine rl_step (by decide) (op_max rfl rfl ?_)
              | refine rl_step (by decide) (op_extract rfl rfl ?_)
              | refine rl_step (by decide) (op_add rfl rfl (by omega) ?_)
              | refine rl_step (by decide) (op_sub rfl rfl (by omega) ?_)
              | refine rl_step (by decide) (op_neg rfl (by omega) ?_)))
          generalize growM h (n + 1) s q2.length = s' at hgb hfill hbs
          refine (ih2 ⟨n + 1, s', q2, vq2, M11⟩ _ ⟨hJ, hbl, hbs, hbr, ⟨by simp only; omega, by simp only; omega⟩, ⟨by simp only; omega, hgb.2.1⟩, hgb.2.2.1, by simp only; omega, ?_, by simp only; omega, by simp only; omega, ?_⟩ (by simp only; omega)).sub (by repeat (first | exact trivial | refine ⟨rfl, ?_⟩))
          · simp only
            rw [show (n + 1).toNat = n.toNat + 1 by omega]
            omega
          · simp only
            rw [show (n + 1).toNat = n.toNat + 1 by omega]
            exact hfill
        · (repeat (first
              | refine run_seq ?_
              | refine run_region_l ?_
              | refine rl_nil ?_
              | refine rl_step (by decide) (op_move rfl ?_)
              | refine rl_step (by decide) (op_assign rfl ?_)
              | refine run_block ?_
              | refine run_inBlock ?_
              | refine run_exit rfl ?_
              | refine run_skip ?_
              | refine run_label ?_
              | refine run_true rfl ?_
              | refine run_false rfl ?_
              | refine rl_yes rfl rfl ?_
              | refine rl_no rfl rfl rfl (by decide) ?_
              | refine rl_step (by decide) (op_pick_t rfl rfl ?_)
              | refine rl_step (by decide) (op_pick_f rfl rfl ?_)
              | refine rl_step (by decide) (op_lss rfl rfl ?_)
              | refine rl_step (by decide) (op_leq rfl rfl ?_)
              | refine rl_step (by decide) (op_gtr rfl rfl ?_)
              | refine rl_step (by decide) (op_geq rfl rfl ?_)
              | refine rl_step (by decide) (op_eql rfl rfl ?_)
              | refine rl_step (by decide) (op_neq rfl rfl ?_)
              | refine rl_step (by decide) (op_not rfl ?_)
              | refine rl_step (by decide) (op_min rfl rfl ?_)
              | refine rl_step (by decide) (op_max rfl rfl ?_)
              | refine rl_step (by decide) (op_extract rfl rfl ?_)
              | refine rl_step (by decide) (op_add rfl rfl (by omega) ?_)
              | refine rl_step (by decide) (op_sub rfl rfl (by omega) ?_)
              | refine rl_step (by decide) (op_neg rfl (by omega) ?_)))
          have hg : growM h (n + 1) s q2.length = s := if_neg hmore
          rw [hg] at hgb hfill
          refine (ih2 ⟨n + 1, s, q2, vq2, M10⟩ _ ⟨hJ, hbl, hbs, hbr, ⟨by simp only; omega, by simp only; omega⟩, ⟨hs.1, hgb.2.1⟩, hgb.2.2.1, by simp only; omega, ?_, hmin, by simp only; omega, ?_⟩ (by simp only; omega)).sub (by repeat (first | exact trivial | refine ⟨rfl, ?_⟩))
          · simp only
            rw [show (n + 1).toNat = n.toNat + 1 by omega]
            omega
          · simp only
            rw [show (n + 1).toNat = n.toNat + 1 by omega]
            exact hfill
    · (repeat (first
          | refine run_seq ?_
          | refine run_region_l ?_
          | refine rl_nil ?_
          | refine rl_step (by decide) (op_move rfl ?_)
          | refine rl_step (by decide) (op_assign rfl ?_)
          | refine run_block ?_
          | refine run_inBlock ?_
          | refine run_exit rfl ?_
          | refine run_skip ?_
          | refine run_label ?_
          | refine run_true rfl ?_
          | refine run_false rfl ?_
          | refine rl_yes rfl rfl ?_
          | refine rl_no rfl rfl rfl (by decide) ?_
          | refine rl_step (by decide) (op_pick_t rfl rfl ?_)
          | refine rl_step (by decide) (op_pick_f rfl rfl ?_)
          | refine rl_step (by decide) (op_lss rfl rfl ?_)
          | refine rl_step (by decide) (op_leq rfl rfl ?_)
          | refine rl_step (by decide) (op_gtr rfl rfl ?_)
          | refine rl_step (by decide) (op_geq rfl rfl ?_)
          | refine rl_step (by decide) (op_eql rfl rfl ?_)
          | refine rl_step (by decide) (op_neq rfl rfl ?_)
          | refine rl_step (by decide) (op_not rfl ?_)
          | refine rl_step (by decide) (op_min rfl rfl ?_)
          | refine rl_step (by decide) (op_max rfl rfl ?_)
          | refine rl_step (by decide) (op_extract rfl rfl ?_)
          | refine rl_step (by decide) (op_add rfl rfl (by omega) ?_)
          | refine rl_step (by decide) (op_sub rfl rfl (by omega) ?_)
          | refine rl_step (by decide) (op_neg rfl (by omega) ?_)))
      have hprog : 0 < n + s := by
        rcases Int.lt_or_eq_of_le hn.1 with h' | h'
        · omega
        · obtain ⟨e1, e2⟩ := hn0 h'.symm
          rcases Nat.eq_zero_or_pos q.length with h2 | h2
          · have hlt : n.toNat < bd.length := by omega
            rw [List.getElem?_eq_getElem hlt] at hb
            simp only at hb
            have h3 : s = 0 := by omega
            generalize bd[n.toNat] = x at hb
            rw [← h', h3, e2, h2, show ((0 : Nat) : Int) = 0 from rfl] at hb
            rw [fits_first x hh1] at hb
            cases hb
          · omega
      have hfin : fillM h notes bd 0 q (min q.length (h - 1)) = (n, q1, s) := by
        rw [← hfill]
        rcases Nat.lt_or_ge n.toNat bd.length with h' | h'
        · rw [List.getElem?_eq_getElem h'] at hb
          simp only at hb
          rw [List.drop_eq_getElem_cons h', fillM, hb]
          rfl
        · rw [List.drop_eq_nil_of_le h', fillM]
      have hset : ∃ f', f = f' + 1 ∧ setM h notes f bd q = ⟨0, 0, 0, 0, bd.take n.toNat, q1.take s.toNat⟩ :: setM h notes f' (bd.drop n.toNat) (q1.drop s.toNat) := by
        refine ⟨f - 1, by omega, ?_⟩
        have hne : (bd.isEmpty && q.isEmpty) = false := by
          rw [Bool.and_eq_false_iff]
          rcases Nat.eq_zero_or_pos bd.length with h1 | h1
          · right
            cases q with
            | nil => simp at hne'; omega
            | cons => rfl
          · left
            cases bd with
            | nil => simp at h1
            | cons => rfl
        rw [show f = (f - 1) + 1 by omega, setM, hne, hfin]
        simp
      obtain ⟨f', rfl, hset⟩ := hset
      rw [hset, List.append_cons] at hall
      clear hb hfill hset hfin hn0
      refine region_dr (M := M9) 11 2 [] mixed rfl (by kernel_rfl) (fun w1 hs1 => ?_)
      replace hbl := hbl.up hs1
      replace hbs := hbs.up hs1
      replace hJ := hJ.up hs1
      clear hs1 hbr
      refine dr_cons (isv _) (by decide) (mono_isv _) (ob0 rfl fun M w hs => opg (op_move rfl ⟨_, UpM.refl _ _, rfl⟩)) ?_
      refine dr_cons (isv vb) (by decide) (mono_isv _) (ob0 rfl fun M w' hs2 => opg (op_load1 tdSL rfl (hJ.bb.up hs2) rfl ⟨_, UpM.refl _ _, rfl⟩)) ?_
      refine dr_cons (isv (.int .i64 n)) (by decide) (mono_isv _) (ob0 rfl fun M w' hs2 => opg (op_load1 tdI rfl (hbl.up hs2) rfl ⟨_, UpM.refl _ _, rfl⟩)) ?_
      refine dr_cons (isSl eLine (bd.take n.toNat)) (by decide) (mono_isSl _ _) (ob2 rfl fun M w' hs2 v1 k1 v2 k2 => ?_) ?_
      · cases k1; cases k2
        exact opg (op_slice_h uL teL rfl rfl (hJ.sb.mono hs2.x) hn fun u hu => ⟨_, UpM.refl _ _, hu⟩)
      refine dr_cons (isSl eLine (bd.take n.toNat)) (by decide) (mono_isSl _ _) (ob1 rfl fun M w' hs2 v1 k1 => ?_) ?_
      · exact opg (op_call ent46 rfl (clone_c M _ _ _ (hs2.mb hJ.rn.mb) k1) fun u w2 hu => ⟨_, UpM.of_below hu.1, hu.2⟩)
      refine dr_cons (isv vq1) (by decide) (mono_isv _) (ob0 rfl fun M w' hs2 => opg (op_load1 tdSL rfl (hJ.bq.up hs2) rfl ⟨_, UpM.refl _ _, rfl⟩)) ?_
      refine dr_cons (isv (.int .i64 s)) (by decide) (mono_isv _) (ob0 rfl fun M w' hs2 => opg (op_load1 tdI rfl (hbs.up hs2) rfl ⟨_, UpM.refl _ _, rfl⟩)) ?_
      refine dr_cons (isSl eLine (q1.take s.toNat)) (by decide) (mono_isSl _ _) (ob2 rfl fun M w' hs2 v1 k1 v2 k2 => ?_) ?_
      · cases k1; cases k2
        exact opg (op_slice_h uL teL rfl rfl (hJ.sq.mono hs2.x) hs fun u hu => ⟨_, UpM.refl _ _, hu⟩)
      refine dr_cons (isSl eLine (q1.take s.toNat)) (by decide) (mono_isSl _ _) (ob1 rfl fun M w' hs2 v1 k1 => ?_) ?_
      · exact opg (op_call ent46 rfl (clone_c M _ _ _ (hs2.mb hJ.rn.mb) k1) fun u w2 hu => ⟨_, UpM.of_below hu.1, hu.2⟩)
      refine dr_cons (isV ePg ⟨0, 0, 0, 0, bd.take n.toNat, q1.take s.toNat⟩) (by decide) (mono_isV _ _) (ob2 rfl fun M w' hs2 v1 k1 v2 k2 => ?_) ?_
      · obtain ⟨a1, c1, q1', _⟩ := SlOf.ex k1
        obtain ⟨a2, c2, q2', _⟩ := SlOf.ex k2
        refine opg (op_build (parts := [(3, .tmp 81), (4, .tmp 85)]) (vs := [v1, v2]) (pl := [(4, [v1]), (5, [v2])]) sbP rfl ⟨rfl, by rw [q1']; rfl, Nat.le_of_ble_eq_true rfl, rfl, by rw [q2']; rfl, Nat.le_of_ble_eq_true rfl, trivial⟩ ⟨_, UpM.refl _ _, ?_⟩)
        exact ePg_V.2 ⟨v1, v2, rfl, ⟨by unfold I64; simp, by unfold I64; simp, by unfold I64; simp, by unfold I64; simp⟩, k1, k2⟩
      refine dr_cons (isSl ePg [⟨0, 0, 0, 0, bd.take n.toNat, q1.take s.toNat⟩]) (by decide) (mono_isSl _ _) (ob1 rfl fun M w' hs2 v1 k1 => ?_) ?_
      · exact opg (op_buildSlice (E := ePg) (n := 1) (parts := [(0, .tmp 86)]) (vs := [v1]) (l := [⟨0, 0, 0, 0, bd.take n.toNat, q1.take s.toNat⟩]) uP teP (hJ.rn.up hs2) rfl rfl ⟨k1, trivial⟩ rfl ⟨by simp [ePg, Enc.via, Enc.app, eSl, eN], by simp [ePg, Enc.via]⟩ fun u w2 hu _ hbel => ⟨_, UpM.of_below hbel, hu⟩)
      refine dr_nil rfl (fun M11 w14 val hs2 hall2 => ?_)
      obtain ⟨h87, _, _, _, _, _, _, _, _, _, h77, _⟩ := hall2
      have e77 : val 77 = _ := h77
      replace hbl := hbl.up hs2
      replace hbs := hbs.up hs2
      replace hJ := hJ.up hs2
      refine RT.sub (fr' := [(1, vn), (3, ptr bb), (5, ptr bh), (10, ptr bq), (11, ptr bl), (12, ptr bs), (77, val 77), (87, val 87)]) ?_ (by repeat (first | exact trivial | refine ⟨rfl, ?_⟩))
      rw [e77]
      generalize val 87 = v87 at h87
      clear hs2 h77 e77
      refine rt_one (i := 11) (by kernel_rfl) rfl (by decide) (op_append (E := ePg) (tag := 9) uP teP rfl rfl hJ.rn hJ.sp hJ.gp h87 (by show (ps.length + 1) * 80 ≤ _; omega) ?_)
      intro vp2 w15 M12 hsp hgp hst
      replace hbl := hbl.st hst (by decide)
      replace hbs := hbs.st hst (by decide)
      have hJ : PgJ M w h notes vn bb bh bq M12 w15 bd q1 _ vb vq1 vp2 :=
        ⟨hJ.rn.st hst, hJ.bb.st hst (by decide), hJ.bh.st hst (by decide), hJ.bq.st hst (by decide), hJ.sb.mono hst.x, hJ.sq.mono hst.x, hJ.gq.st hst (by decide),
          hsp, hgp, hJ.sn.mono hst.x, hJ.hr⟩
      clear hst hsp hgp h87
      refine rt_one (i := 12) (by kernel_rfl) rfl (by decide) (op_assign rfl ?_)
      refine rt_nil (by kernel_rfl) ?_
      (repeat (first
          | refine run_seq ?_
          | refine run_region_l ?_
          | refine rl_nil ?_
          | refine rl_step (by decide) (op_move rfl ?_)
          | refine rl_step (by decide) (op_assign rfl ?_)
          | refine run_block ?_
          | refine run_inBlock ?_
          | refine run_exit rfl ?_
          | refine run_skip ?_
          | refine run_label ?_
          | refine run_true rfl ?_
          | refine run_false rfl ?_
          | refine rl_yes rfl rfl ?_
          | refine rl_no rfl rfl rfl (by decide) ?_
          | refine rl_step (by decide) (op_pick_t rfl rfl ?_)
          | refine rl_step (by decide) (op_pick_f rfl rfl ?_)
          | refine rl_step (by decide) (op_lss rfl rfl ?_)
          | refine rl_step (by decide) (op_leq rfl rfl ?_)
          | refine rl_step (by decide) (op_gtr rfl rfl ?_)
          | refine rl_step (by decide) (op_geq rfl rfl ?_)
          | refine rl_step (by decide) (op_eql rfl rfl ?_)
          | refine rl_step (by decide) (op_neq rfl rfl ?_)
          | refine rl_step (by decide) (op_not rfl ?_)
          | refine rl_step (by decide) (op_min rfl rfl ?_)
          | refine rl_step (by decide) (op_max rfl rfl ?_)
          | refine rl_step (by decide) (op_extract rfl rfl ?_)
          | refine rl_step (by decide) (op_add rfl rfl (by omega) ?_)
          | refine rl_step (by decide) (op_sub rfl rfl (by omega) ?_)
          | refine rl_step (by decide) (op_neg rfl (by omega) ?_)))
      refine region_dg (M := M12) (relW_ok w.heap.size) { tag := [none, none, none, none, none, none, some 3], pre := [[], [], [], [3], [3], [3], []], oth := [[3], [3], [3], [3], [3], [3], []] } 7 1 [] mixed rfl (by kernel_rfl) (fun w16 hs1 => ?_)
      replace hbl := hbl.up hs1
      replace hbs := hbs.up hs1
      replace hJ := hJ.up hs1
      clear hs1
      refine dg_cons (isv vb) (by decide) (fun _ _ _ _ _ _ h => h) (og0 rfl fun M w' hs2 => opg (op_load1 tdSL rfl (hJ.bb.stw hs2 (nin rfl)) rfl ⟨_, (relW_ok _).refl _ _, rfl⟩)) ?_
      refine dg_cons (isv (.int .i64 n)) (by decide) (fun _ _ _ _ _ _ h => h) (og0 rfl fun M w' hs2 => opg (op_load1 tdI rfl (hbl.stw hs2 (nin rfl)) rfl ⟨_, (relW_ok _).refl _ _, rfl⟩)) ?_
      refine dg_cons (isSl eLine (bd.drop n.toNat)) (by decide) (fun _ _ _ _ _ s h => h.mono s.x) (og2 rfl fun M w' hs2 v1 k1 v2 k2 => ?_) ?_
      · cases k1; cases k2
        exact opg (op_slice_l uL teL rfl rfl (hJ.sb.mono hs2.x) hn fun u hu => ⟨_, (relW_ok _).refl _ _, hu⟩)
      refine dg_cons (isv vq1) (by decide) (fun _ _ _ _ _ _ h => h) (og0 rfl fun M w' hs2 => opg (op_load1 tdSL rfl (hJ.bq.stw hs2 (nin rfl)) rfl ⟨_, (relW_ok _).mono (by simp) ((relW_ok _).refl _ _), rfl⟩)) ?_
      refine dg_cons (isv (.int .i64 s)) (by decide) (fun _ _ _ _ _ _ h => h) (og0 rfl fun M w' hs2 => opg (op_load1 tdI rfl (hbs.stw hs2 (nin rfl)) rfl ⟨_, (relW_ok _).mono (by simp) ((relW_ok _).refl _ _), rfl⟩)) ?_
      refine dg_cons (fun M w' v => SlOf eLine M w' v (q1.drop s.toNat) ∧ Grow w.heap.size M w' v (q1.drop s.toNat).length 4 4 47) (by decide) (fun _ _ _ _ _ s h => ⟨h.1.mono s.x, h.2.stw s (nin rfl)⟩) (og2 rfl fun M w' hs2 v1 k1 v2 k2 => ?_) ?_
      · cases k1; cases k2
        exact opg (op_slice_lG uL teL rfl rfl (hJ.sq.mono hs2.x) (hJ.gq.stw hs2 (nin rfl)) hs fun u hu hu2 => ⟨_, (relW_ok _).mono (by simp) ((relW_ok _).refl _ _), hu, hu2⟩)
      refine dg_cons0 (fun M w' => ∃ v, Box M w' bb 3 [v] 23 ∧ SlOf eLine M w' v (bd.drop n.toNat)) (fun _ _ _ _ _ s ⟨v, h1, h2⟩ => ⟨v, h1.stw s (nin rfl), h2.mono s.x⟩) (og1 rfl fun M w' hs2 v1 k1 => ?_) ?_
      · refine opg (op_store (c := [v1]) tdSL rfl rfl (by obtain ⟨_, _, q, _⟩ := SlOf.ex k1; rw [q]; rfl) (by obtain ⟨_, _, q, _⟩ := SlOf.ex k1; rw [q]; simp [Value.oneCell']) rfl (hJ.rn.stw hs2) hBb (hJ.bb.stw hs2 (nin rfl)) (by simp) fun w2 h1 h2 => ⟨_, StW.st h2, v1, h1, ?_⟩)
        exact SlOf.mono k1 h2.x
      refine dg_nil rfl (fun M13 w17 val hs2 hall2 => ?_)
      obtain ⟨⟨vb', hbb', hsb'⟩, ⟨hsq', hgq'⟩, _⟩ := hall2
      have e94 : SlOf eLine M13 w17 (val 94) (q1.drop s.toNat) := hsq'
      replace hgq' : Grow w.heap.size M13 w17 (val 94) (q1.drop s.toNat).length 4 4 47 := hgq'
      refine RT.sub (fr' := [(1, vn), (3, ptr bb), (5, ptr bh), (9, vp2), (10, ptr bq), (94, val 94)]) ?_ (by repeat (first | exact trivial | refine ⟨rfl, ?_⟩))
      generalize val 94 = vq' at e94 hgq'
      obtain ⟨aq, cq, qq, _⟩ := SlOf.ex e94
      refine rt_one0 (i := 7) (by kernel_rfl) rfl (op_store (c := [vq']) tdSL rfl rfl (by rw [qq]; rfl) (by rw [qq]; simp [Value.oneCell']) rfl (hJ.rn.stw hs2) hBq (hJ.bq.stw hs2 (nin rfl)) (by simp) ?_)
      intro w18 hbq hst
      replace hbq : Box M13 w18 bq 10 [vq'] 23 := hbq
      have hJ : PgJ M w h notes vn bb bh bq M13 w18 (bd.drop n.toNat) (q1.drop s.toNat) (ps ++ [⟨0, 0, 0, 0, bd.take n.toNat, q1.take s.toNat⟩]) vb' vq' vp2 :=
        ⟨(hJ.rn.stw hs2).st hst, hbb'.st hst (by decide), (hJ.bh.stw hs2 (nin rfl)).st hst (by decide), hbq, hsb'.mono hst.x, e94.mono hst.x, hgq'.st hst (by decide),
          (hJ.sp.mono hs2.x).mono hst.x, by simpa using (hJ.gp.stw hs2 (nin rfl)).st hst (by decide), (hJ.sn.mono hs2.x).mono hst.x, fun i hi => hJ.hr i (refs_sub hi)⟩
      refine rt_nil (by kernel_rfl) ?_
      clear hst hs2 hbq hsq' hgq' e94
      (repeat (first
          | refine run_seq ?_
          | refine run_region_l ?_
          | refine rl_nil ?_
          | refine rl_step (by decide) (op_move rfl ?_)
          | refine rl_step (by decide) (op_assign rfl ?_)
          | refine run_block ?_
          | refine run_inBlock ?_
          | refine run_exit rfl ?_
          | refine run_skip ?_
          | refine run_label ?_
          | refine run_true rfl ?_
          | refine run_false rfl ?_
          | refine rl_yes rfl rfl ?_
          | refine rl_no rfl rfl rfl (by decide) ?_
          | refine rl_step (by decide) (op_pick_t rfl rfl ?_)
          | refine rl_step (by decide) (op_pick_f rfl rfl ?_)
          | refine rl_step (by decide) (op_lss rfl rfl ?_)
          | refine rl_step (by decide) (op_leq rfl rfl ?_)
          | refine rl_step (by decide) (op_gtr rfl rfl ?_)
          | refine rl_step (by decide) (op_geq rfl rfl ?_)
          | refine rl_step (by decide) (op_eql rfl rfl ?_)
          | refine rl_step (by decide) (op_neq rfl rfl ?_)
          | refine rl_step (by decide) (op_not rfl ?_)
          | refine rl_step (by decide) (op_min rfl rfl ?_)
          | refine rl_step (by decide) (op_max rfl rfl ?_)
          | refine rl_step (by decide) (op_extract rfl rfl ?_)
          | refine rl_step (by decide) (op_add rfl rfl (by omega) ?_)
          | refine rl_step (by decide) (op_sub rfl rfl (by omega) ?_)
          | refine rl_step (by decide) (op_neg rfl (by omega) ?_)))
      have hd1 : (bd.drop n.toNat).length = bd.length - n.toNat := List.length_drop
      have hd2 : (q1.drop s.toNat).length = q1.length - s.toNat := List.length_drop
      refine (ih ⟨f', bd.drop n.toNat, q1.drop s.toNat, ps ++ [⟨0, 0, 0, 0, bd.take n.toNat, q1.take s.toNat⟩], vb', vq', vp2, M13⟩ _ ⟨hJ, ?_, ?_, hall⟩ ?_).sub (by repeat (first | exact trivial | refine ⟨rfl, ?_⟩))
      · simp only [List.length_append, List.length_cons, List.length_nil]
        omega
      · simp only
        omega
      · simp only
        omega
  · refine rl_part 28 rfl (fun h => absurd h (by omega)) (fun _ => ?_)
    (repeat (first
        | refine run_seq ?_
        | refine run_region_l ?_
        | refine rl_nil ?_
        | refine rl_step (by decide) (op_move rfl ?_)
        | refine rl_step (by decide) (op_assign rfl ?_)
        | refine run_block ?_
        | refine run_inBlock ?_
        | refine run_exit rfl ?_
        | refine run_skip ?_
        | refine run_label ?_
        | refine run_true rfl ?_
        | refine run_false rfl ?_
        | refine rl_yes rfl rfl ?_
        | refine rl_no rfl rfl rfl (by decide) ?_
        | refine rl_step (by decide) (op_pick_t rfl rfl ?_)
        | refine rl_step (by decide) (op_pick_f rfl rfl ?_)
        | refine rl_step (by decide) (op_lss rfl rfl ?_)
        | refine rl_step (by decide) (op_leq rfl rfl ?_)
        | refine rl_step (by decide) (op_gtr rfl rfl ?_)
        | refine rl_step (by decide) (op_geq rfl rfl ?_)
        | refine rl_step (by decide) (op_eql rfl rfl ?_)
        | refine rl_step (by decide) (op_neq rfl rfl ?_)
        | refine rl_step (by decide) (op_not rfl ?_)
        | refine rl_step (by decide) (op_min rfl rfl ?_)
        | refine rl_step (by decide) (op_max rfl rfl ?_)
        | refine rl_step (by decide) (op_extract rfl rfl ?_)
        | refine rl_step (by decide) (op_add rfl rfl (by omega) ?_)
        | refine rl_step (by decide) (op_sub rfl rfl (by omega) ?_)
        | refine rl_step (by decide) (op_neg rfl (by omega) ?_)))
    refine rl_step (by decide) (op_load1 tdSL rfl hJ.bq rfl ?_)
    (repeat (first
        | refine run_seq ?_
        | refine run_region_l ?_
        | refine rl_nil ?_
        | refine rl_step (by decide) (op_move rfl ?_)
        | refine rl_step (by decide) (op_assign rfl ?_)
        | refine run_block ?_
        | refine run_inBlock ?_
        | refine run_exit rfl ?_
        | refine run_skip ?_
        | refine run_label ?_
        | refine run_true rfl ?_
        | refine run_false rfl ?_
        | refine rl_yes rfl rfl ?_
        | refine rl_no rfl rfl rfl (by decide) ?_
        | refine rl_step (by decide) (op_pick_t rfl rfl ?_)
        | refine rl_step (by decide) (op_pick_f rfl rfl ?_)
        | refine rl_step (by decide) (op_lss rfl rfl ?_)
        | refine rl_step (by decide) (op_leq rfl rfl ?_)
        | refine rl_step (by decide) (op_gtr rfl rfl ?_)
        | refine rl_step (by decide) (op_geq rfl rfl ?_)
        | refine rl_step (by decide) (op_eql rfl rfl ?_)
        | refine rl_step (by decide) (op_neq rfl rfl ?_)
        | refine rl_step (by decide) (op_not rfl ?_)
        | refine rl_step (by decide) (op_min rfl rfl ?_)
        | refine rl_step (by decide) (op_max rfl rfl ?_)
        | refine rl_step (by decide) (op_extract rfl rfl ?_)
        | refine rl_step (by decide) (op_add rfl rfl (by omega) ?_)
        | refine rl_step (by decide) (op_sub rfl rfl (by omega) ?_)
        | refine rl_step (by decide) (op_neg rfl (by omega) ?_)))
    refine rl_step (by decide) (op_len uL rfl hJ.sq ?_)
    (repeat (first
        | refine run_seq ?_
        | refine run_region_l ?_
        | refine rl_nil ?_
        | refine rl_step (by decide) (op_move rfl ?_)
        | refine rl_step (by decide) (op_assign rfl ?_)
        | refine run_block ?_
        | refine run_inBlock ?_
        | refine run_exit rfl ?_
        | refine run_skip ?_
        | refine run_label ?_
        | refine run_true rfl ?_
        | refine run_false rfl ?_
        | refine rl_yes rfl rfl ?_
        | refine rl_no rfl rfl rfl (by decide) ?_
        | refine rl_step (by decide) (op_pick_t rfl rfl ?_)
        | refine rl_step (by decide) (op_pick_f rfl rfl ?_)
        | refine rl_step (by decide) (op_lss rfl rfl ?_)
        | refine rl_step (by decide) (op_leq rfl rfl ?_)
        | refine rl_step (by decide) (op_gtr rfl rfl ?_)
        | refine rl_step (by decide) (op_geq rfl rfl ?_)
        | refine rl_step (by decide) (op_eql rfl rfl ?_)
        | refine rl_step (by decide) (op_neq rfl rfl ?_)
        | refine rl_step (by decide) (op_not rfl ?_)
        | refine rl_step (by decide) (op_min rfl rfl ?_)
        | refine rl_step (by decide) (op_max rfl rfl ?_)
        | refine rl_step (by decide) (op_extract rfl rfl ?_)
        | refine rl_step (by decide) (op_add rfl rfl (by omega) ?_)
        | refine rl_step (by decide) (op_sub rfl rfl (by omega) ?_)
        | refine rl_step (by decide) (op_neg rfl (by omega) ?_)))
    refine run_yes rfl hne.2 ?_
    (repeat (first
        | refine run_seq ?_
        | refine run_region_l ?_
        | refine rl_nil ?_
        | refine rl_step (by decide) (op_move rfl ?_)
        | refine rl_step (by decide) (op_assign rfl ?_)
        | refine run_block ?_
        | refine run_inBlock ?_
        | refine run_exit rfl ?_
        | refine run_skip ?_
        | refine run_label ?_
        | refine run_true rfl ?_
        | refine run_false rfl ?_
        | refine rl_yes rfl rfl ?_
        | refine rl_no rfl rfl rfl (by decide) ?_
        | refine rl_step (by decide) (op_pick_t rfl rfl ?_)
        | refine rl_step (by decide) (op_pick_f rfl rfl ?_)
        | refine rl_step (by decide) (op_lss rfl rfl ?_)
        | refine rl_step (by decide) (op_leq rfl rfl ?_)
        | refine rl_step (by decide) (op_gtr rfl rfl ?_)
        | refine rl_step (by decide) (op_geq rfl rfl ?_)
        | refine rl_step (by decide) (op_eql rfl rfl ?_)
        | refine rl_step (by decide) (op_neq rfl rfl ?_)
        | refine rl_step (by decide) (op_not rfl ?_)
        | refine rl_step (by decide) (op_min rfl rfl ?_)
        | refine rl_step (by decide) (op_max rfl rfl ?_)
        | refine rl_step (by decide) (op_extract rfl rfl ?_)
        | refine rl_step (by decide) (op_add rfl rfl (by omega) ?_)
        | refine rl_step (by decide) (op_sub rfl rfl (by omega) ?_)
        | refine rl_step (by decide) (op_neg rfl (by omega) ?_)))
    have hne' : 0 < bd.length + q.length := by omega
    clear hne
    refine Run.sub (fr' := [(1, vn), (3, ptr bb), (5, ptr bh), (9, vp), (10, ptr bq)]) ?_ (by repeat (first | exact trivial | refine ⟨rfl, ?_⟩))
    have hq0 := hJ.sq.le
    refine region_dr (M := M5) 8 1 [] mixed rfl (by kernel_rfl) (fun w1 hs1 => ?_)
    replace hJ := hJ.up hs1
    refine dr_cons (isv vq) (by decide) (mono_isv _) (ob0 rfl fun M w' hs => opg (op_load1 tdSL rfl (hJ.bq.up hs) rfl ⟨_, UpM.refl _ _, rfl⟩)) ?_
    refine dr_cons (isv (.int .i64 q.length)) (by decide) (mono_isv _) (ob1 rfl fun M w' hs v1 k1 => ?_) ?_
    · cases k1; exact opg (op_len uL rfl (hJ.sq.mono hs.x) ⟨_, UpM.refl _ _, rfl⟩)
    refine dr_cons (isv (.int .i64 h)) (by decide) (mono_isv _) (ob0 rfl fun M w' hs => opg (op_load1 tdI rfl (hJ.bh.up hs) rfl ⟨_, UpM.refl _ _, rfl⟩)) ?_
    refine dr_cons (isv (.int .i64 (h - 1))) (by decide) (mono_isv _) (ob1 rfl fun M w' hs v1 k1 => ?_) ?_
    · cases k1; exact opg (op_sub rfl rfl (by omega) ⟨_, UpM.refl _ _, rfl⟩)
    refine dr_cons (isv (.int .i64 (min q.length (h - 1)))) (by decide) (mono_isv _) (ob2 rfl fun M w' hs v1 k1 v2 k2 => ?_) ?_
    · cases k1; cases k2; exact opg (op_min rfl rfl ⟨_, UpM.refl _ _, rfl⟩)
    refine dr_cons (isBox w.heap.size 11 [.int .i64 0] 3) (by decide) (mono_isBox _ _ _ _) (ob0 rfl fun M w' hs => opg (op_alloc 11 (hJ.rn.up hs) tdI fun b w2 M2 h1 h2 h3 => ⟨_, h3, b, rfl, h1, h2⟩)) ?_
    refine dr_cons (isBox w.heap.size 12 [.int .i64 0] 3) (by decide) (mono_isBox _ _ _ _) (ob0 rfl fun M w' hs => opg (op_alloc 12 (hJ.rn.up hs) tdI fun b w2 M2 h1 h2 h3 => ⟨_, h3, b, rfl, h1, h2⟩)) ?_
    refine dr_cons0 (ob1 rfl fun M w' hs v1 k1 => ?_) ?_
    · obtain ⟨b, rfl, _, hb⟩ := k1
      exact opg (op_storeU (c := [.int .i64 0]) tdI rfl rfl rfl (by simp [Value.oneCell']) rfl hb (by simp) rfl fun w2 h3 => ⟨_, h3, trivial⟩)
    refine dr_nil rfl (fun M6 w6 val hs2 hall2 => ?_)
    obtain ⟨_, h12, h11, h37, _⟩ := hall2
    have e37 : val 37 = _ := h37
    replace hJ := hJ.up hs2
    obtain ⟨bs, e12, hBs, hbs⟩ := h12
    obtain ⟨bl, e11, hBl, hbl⟩ := h11
    refine RT.sub (fr' := [(1, vn), (3, ptr bb), (5, ptr bh), (9, vp), (10, ptr bq), (11, val 11), (12, val 12), (37, val 37)]) ?_ (by repeat (first | exact trivial | refine ⟨rfl, ?_⟩))
    rw [e11, e12, e37]
    refine rt_one0 (i := 8) (by kernel_rfl) rfl (op_store (c := [.int .i64 (min q.length (h - 1))]) tdI rfl rfl rfl (by simp [Value.oneCell']) rfl hJ.rn hBs hbs (by simp) ?_)
    intro w7 hbs hst
    replace hbl := hbl.st hst (by decide)
    replace hJ := hJ.st hst (by decide)
    refine rt_nil (by kernel_rfl) ?_
    replace hbs : Box M6 w7 bs 12 [.int .i64 (min q.length (h - 1))] 3 := hbs
    clear hst hs1 hs2 h37 e37 e11 e12
    (repeat (first
        | refine run_seq ?_
        | refine run_region_l ?_
        | refine rl_nil ?_
        | refine rl_step (by decide) (op_move rfl ?_)
        | refine rl_step (by decide) (op_assign rfl ?_)
        | refine run_block ?_
        | refine run_inBlock ?_
        | refine run_exit rfl ?_
        | refine run_skip ?_
        | refine run_label ?_
        | refine run_true rfl ?_
        | refine run_false rfl ?_
        | refine rl_yes rfl rfl ?_
        | refine rl_no rfl rfl rfl (by decide) ?_
        | refine rl_step (by decide) (op_pick_t rfl rfl ?_)
        | refine rl_step (by decide) (op_pick_f rfl rfl ?_)
        | refine rl_step (by decide) (op_lss rfl rfl ?_)
        | refine rl_step (by decide) (op_leq rfl rfl ?_)
        | refine rl_step (by decide) (op_gtr rfl rfl ?_)
        | refine rl_step (by decide) (op_geq rfl rfl ?_)
        | refine rl_step (by decide) (op_eql rfl rfl ?_)
        | refine rl_step (by decide) (op_neq rfl rfl ?_)
        | refine rl_step (by decide) (op_not rfl ?_)
        | refine rl_step (by decide) (op_min rfl rfl ?_)
        | refine rl_step (by decide) (op_max rfl rfl ?_)
        | refine rl_step (by decide) (op_extract rfl rfl ?_)
        | refine rl_step (by decide) (op_add rfl rfl (by omega) ?_)
        | refine rl_step (by decide) (op_sub rfl rfl (by omega) ?_)
        | refine rl_step (by decide) (op_neg rfl (by omega) ?_)))
    refine rl_step (by decide) (op_makeFunc (cap := [.tmp 5, .tmp 11, .tmp 12]) rfl ?_)
    refine rl_step (by decide) (op_alloc 13 hJ.rn tdF ?_)
    intro br w8 M8 hBr hbr hs1
    replace hbl := hbl.up hs1
    replace hbs := hbs.up hs1
    replace hJ := hJ.up hs1
    refine rl_step0 (op_store (c := [.func (.func 44) #[] #[ptr bh, ptr bl, ptr bs]]) tdF rfl rfl rfl (by simp [Value.oneCell']) rfl hJ.rn hBr hbr (by simp) ?_)
    intro w9 hbr hst
    replace hbl := hbl.st hst (by decide)
    replace hbs := hbs.st hst (by decide)
    replace hJ := hJ.st hst (by decide)
    replace hbr : Box M8 w9 br 13 [.func (.func 44) #[] #[ptr bh, ptr bl, ptr bs]] 63 := hbr
    clear hst hs1
    (repeat (first
        | refine run_seq ?_
        | refine run_region_l ?_
        | refine rl_nil ?_
        | refine rl_step (by decide) (op_move rfl ?_)
        | refine rl_step (by decide) (op_assign rfl ?_)
        | refine run_block ?_
        | refine run_inBlock ?_
        | refine run_exit rfl ?_
        | refine run_skip ?_
        | refine run_label ?_
        | refine run_true rfl ?_
        | refine run_false rfl ?_
        | refine rl_yes rfl rfl ?_
        | refine rl_no rfl rfl rfl (by decide) ?_
        | refine rl_step (by decide) (op_pick_t rfl rfl ?_)
        | refine rl_step (by decide) (op_pick_f rfl rfl ?_)
        | refine rl_step (by decide) (op_lss rfl rfl ?_)
        | refine rl_step (by decide) (op_leq rfl rfl ?_)
        | refine rl_step (by decide) (op_gtr rfl rfl ?_)
        | refine rl_step (by decide) (op_geq rfl rfl ?_)
        | refine rl_step (by decide) (op_eql rfl rfl ?_)
        | refine rl_step (by decide) (op_neq rfl rfl ?_)
        | refine rl_step (by decide) (op_not rfl ?_)
        | refine rl_step (by decide) (op_min rfl rfl ?_)
        | refine rl_step (by decide) (op_max rfl rfl ?_)
        | refine rl_step (by decide) (op_extract rfl rfl ?_)
        | refine rl_step (by decide) (op_add rfl rfl (by omega) ?_)
        | refine rl_step (by decide) (op_sub rfl rfl (by omega) ?_)
        | refine rl_step (by decide) (op_neg rfl (by omega) ?_)))
    refine rl_step (by decide) (op_makeFunc (cap := [.tmp 11, .tmp 3, .tmp 13, .tmp 12, .tmp 10]) rfl ?_)
    (repeat (first
        | refine run_seq ?_
        | refine run_region_l ?_
        | refine rl_nil ?_
        | refine rl_step (by decide) (op_move rfl ?_)
        | refine rl_step (by decide) (op_assign rfl ?_)
        | refine run_block ?_
        | refine run_inBlock ?_
        | refine run_exit rfl ?_
        | refine run_skip ?_
        | refine run_label ?_
        | refine run_true rfl ?_
        | refine run_false rfl ?_
        | refine rl_yes rfl rfl ?_
        | refine rl_no rfl rfl rfl (by decide) ?_
        | refine rl_step (by decide) (op_pick_t rfl rfl ?_)
        | refine rl_step (by decide) (op_pick_f rfl rfl ?_)
        | refine rl_step (by decide) (op_lss rfl rfl ?_)
        | refine rl_step (by decide) (op_leq rfl rfl ?_)
        | refine rl_step (by decide) (op_gtr rfl rfl ?_)
        | refine rl_step (by decide) (op_geq rfl rfl ?_)
        | refine rl_step (by decide) (op_eql rfl rfl ?_)
        | refine rl_step (by decide) (op_neq rfl rfl ?_)
        | refine rl_step (by decide) (op_not rfl ?_)
        | refine rl_step (by decide) (op_min rfl rfl ?_)
        | refine rl_step (by decide) (op_max rfl rfl ?_)
        | refine rl_step (by decide) (op_extract rfl rfl ?_)
        | refine rl_step (by decide) (op_add rfl rfl (by omega) ?_)
        | refine rl_step (by decide) (op_sub rfl rfl (by omega) ?_)
        | refine rl_step (by decide) (op_neg rfl (by omega) ?_)))
    refine (run_loop (α := FS) (fun x => [(1, vn), (3, ptr bb), (5, ptr bh), (9, vp), (10, ptr bq), (11, ptr bl), (12, ptr bs), (13, ptr br), (14, .func (.func 45) #[] #[ptr bl, ptr bb, ptr br, ptr bs, ptr bq])])
      (fun x w' => PgJ M w h notes vn bb bh bq x.M w' bd x.q ps vb x.vq vp ∧ Box x.M w' bl 11 [.int .i64 x.n] 3 ∧ Box x.M w' bs 12 [.int .i64 x.s] 3 ∧
        Box x.M w' br 13 [.func (.func 44) #[] #[ptr bh, ptr bl, ptr bs]] 63 ∧ (0 ≤ x.n ∧ x.n ≤ bd.length) ∧ (0 ≤ x.s ∧ x.s ≤ x.q.length) ∧ x.n + x.s + min x.s 1 ≤ h ∧ (x.s = 0 → x.q.length = 0) ∧
        x.q.length + sumR notes (bd.drop x.n.toNat) = q.length + sumR notes bd ∧ min (q.length : Int) (h - 1) ≤ x.s ∧ (x.n = 0 → x.s = min (q.length : Int) (h - 1) ∧ x.q = q) ∧
        fillM h notes (bd.drop x.n.toNat) x.n x.q x.s = fillM h notes bd 0 q (min q.length (h - 1)))
      (fun x => bd.length - x.n.toNat) ⟨0, min q.length (h - 1), q, vq, M8⟩
      ⟨hJ, hbl, hbs, hbr, ⟨by simp, by simp⟩, ⟨by simp only; omega, by simp only; omega⟩, by simp only; omega, by simp only; omega, by simp, by simp only; omega, fun _ => ⟨rfl, rfl⟩, by simp⟩ ?_).sub (by repeat (first | exact trivial | refine ⟨rfl, ?_⟩))
    clear hJ hbl hbs hbr
    rintro ⟨n, s, q1, vq1, M9⟩ w10 ⟨hJ, hbl, hbs, hbr, hn, hs, hfit, hs0, hsum, hmin, hn0, hfill⟩ ih2
    simp only at hJ hbl hbs hbr hn hs hfit hs0 hsum hmin hn0 hfill ih2
    try dsimp only
    (repeat (first
        | refine run_seq ?_
        | refine run_region_l ?_
        | refine rl_nil ?_
        | refine rl_step (by decide) (op_move rfl ?_)
        | refine rl_step (by decide) (op_assign rfl ?_)
        | refine run_block ?_
        | refine run_inBlock ?_
        | refine run_exit rfl ?_
        | refine run_skip ?_
        | refine run_label ?_
        | refine run_true rfl ?_
        | refine run_false rfl ?_
        | refine rl_yes rfl rfl ?_
        | refine rl_no rfl rfl rfl (by decide) ?_
        | refine rl_step (by decide) (op_pick_t rfl rfl ?_)
        | refine rl_step (by decide) (op_pick_f rfl rfl ?_)
        | refine rl_step (by decide) (op_lss rfl rfl ?_)
        | refine rl_step (by decide) (op_leq rfl rfl ?_)
        | refine rl_step (by decide) (op_gtr rfl rfl ?_)
        | refine rl_step (by decide) (op_geq rfl rfl ?_)
        | refine rl_step (by decide) (op_eql rfl rfl ?_)
        | refine rl_step (by decide) (op_neq rfl rfl ?_)
        | refine rl_step (by decide) (op_not rfl ?_)
        | refine rl_step (by decide) (op_min rfl rfl ?_)
        | refine rl_step (by decide) (op_max rfl rfl ?_)
        | refine rl_step (by decide) (op_extract rfl rfl ?_)
        | refine rl_step (by decide) (op_add rfl rfl (by omega) ?_)
        | refine rl_step (by decide) (op_sub rfl rfl (by omega) ?_)
        | refine rl_step (by decide) (op_neg rfl (by omega) ?_)))
    refine rl_step (by decide) (op_callv (cap := [ptr bl, ptr bb, ptr br, ptr bs, ptr bq]) ent45 rfl rfl (fits_c _ _ bb bh bq bl bs br vb vq1 h n s bd q1 (hJ.vars hbl hbs hbr) hJ.sb hJ.sq (by omega) (by omega) (by omega) hn.2) ?_)
    rintro r w11 ⟨rfl, hbel⟩
    have hs1 : UpM M9 w10 M9 w11 := UpM.of_below hbel
    replace hbl := hbl.up hs1
    replace hbs := hbs.up hs1
    replace hbr := hbr.up hs1
    replace hJ := hJ.up hs1
    clear hs1 hbel
    (repeat (first
        | refine run_seq ?_
        | refine run_region_l ?_
        | refine rl_nil ?_
        | refine rl_step (by decide) (op_move rfl ?_)
        | refine rl_step (by decide) (op_assign rfl ?_)
        | refine run_block ?_
        | refine run_inBlock ?_
        | refine run_exit rfl ?_
        | refine run_skip ?_
        | refine run_label ?_
        | refine run_true rfl ?_
        | refine run_false rfl ?_
        | refine rl_yes rfl rfl ?_
        | refine rl_no rfl rfl rfl (by decide) ?_
        | refine rl_step (by decide) (op_pick_t rfl rfl ?_)
        | refine rl_step (by decide) (op_pick_f rfl rfl ?_)
        | refine rl_step (by decide) (op_lss rfl rfl ?_)
        | refine rl_step (by decide) (op_leq rfl rfl ?_)
        | refine rl_step (by decide) (op_gtr rfl rfl ?_)
        | refine rl_step (by decide) (op_geq rfl rfl ?_)
        | refine rl_step (by decide) (op_eql rfl rfl ?_)
        | refine rl_step (by decide) (op_neq rfl rfl ?_)
        | refine rl_step (by decide) (op_not rfl ?_)
        | refine rl_step (by decide) (op_min rfl rfl ?_)
        | refine rl_step (by decide) (op_max rfl rfl ?_)
        | refine rl_step (by decide) (op_extract rfl rfl ?_)
        | refine rl_step (by decide) (op_add rfl rfl (by omega) ?_)
        | refine rl_step (by decide) (op_sub rfl rfl (by omega) ?_)
        | refine rl_step (by decide) (op_neg rfl (by omega) ?_)))
    refine run_ifb rfl (fun hb => ?_) (fun hb => ?_)
    · have hlt : n.toNat < bd.length := by
        rcases Nat.lt_or_ge n.toNat bd.length with h' | h'
        · exact h'
        · rw [List.getElem?_eq_none h'] at hb; cases hb
      rw [List.getElem?_eq_getElem hlt] at hb
      simp only at hb
      rw [List.drop_eq_getElem_cons hlt, fillM, if_pos hb] at hfill
      rw [sumR_drop notes bd _ hlt] at hsum
      have hfb := fits_bd hb hs.1 (fun e => by have := hs0 e; omega)
      have hmr : ∀ i ∈ bd[n.toNat].notes, 0 ≤ i ∧ i < notes.length := fun i hi => hJ.hr i (mem_refs hlt hi)
      (repeat (first
          | refine run_seq ?_
          | refine run_region_l ?_
          | refine rl_nil ?_
          | refine rl_step (by decide) (op_move rfl ?_)
          | refine rl_step (by decide) (op_assign rfl ?_)
          | refine run_block ?_
          | refine run_inBlock ?_
          | refine run_exit rfl ?_
          | refine run_skip ?_
          | refine run_label ?_
          | refine run_true rfl ?_
          | refine run_false rfl ?_
          | refine rl_yes rfl rfl ?_
          | refine rl_no rfl rfl rfl (by decide) ?_
          | refine rl_step (by decide) (op_pick_t rfl rfl ?_)
          | refine rl_step (by decide) (op_pick_f rfl rfl ?_)
          | refine rl_step (by decide) (op_lss rfl rfl ?_)
          | refine rl_step (by decide) (op_leq rfl rfl ?_)
          | refine rl_step (by decide) (op_gtr rfl rfl ?_)
          | refine rl_step (by decide) (op_geq rfl rfl ?_)
          | refine rl_step (by decide) (op_eql rfl rfl ?_)
          | refine rl_step (by decide) (op_neq rfl rfl ?_)
          | refine rl_step (by decide) (op_not rfl ?_)
          | refine rl_step (by decide) (op_min rfl rfl ?_)
          | refine rl_step (by decide) (op_max rfl rfl ?_)
          | refine rl_step (by decide) (op_extract rfl rfl ?_)
          | refine rl_step (by decide) (op_add rfl rfl (by omega) ?_)
          | refine rl_step (by decide) (op_sub rfl rfl (by omega) ?_)
          | refine rl_step (by decide) (op_neg rfl (by omega) ?_)))
      refine rl_step (by decide) (op_load1 tdSL rfl hJ.bb rfl ?_)
      refine rl_step (by decide) (op_load1 tdI rfl hbl rfl ?_)
      refine rl_step (by decide) (op_indexAddr uL teL rfl rfl hJ.sb (by omega) ?_)
      intro ad _ he
      refine rl_step (by decide) (op_fieldAddr fdL3 rfl ?_)
      refine rl_step (by decide) (op_load teSI rfl he.line.2.2.2 ?_)
      intro vl hvl
      rw [eSl_V] at hvl
      refine rl_step (by decide) (op_len uI rfl hvl ?_)
      clear he
      generalize hL : bd[n.toNat].notes = L at hvl hfill hsum hfb hmr
      (repeat (first
          | refine run_seq ?_
          | refine run_region_l ?_
          | refine rl_nil ?_
          | refine rl_step (by decide) (op_move rfl ?_)
          | refine rl_step (by decide) (op_assign rfl ?_)
          | refine run_block ?_
          | refine run_inBlock ?_
          | refine run_exit rfl ?_
          | refine run_skip ?_
          | refine run_label ?_
          | refine run_true rfl ?_
          | refine run_false rfl ?_
          | refine rl_yes rfl rfl ?_
          | refine rl_no rfl rfl rfl (by decide) ?_
          | refine rl_step (by decide) (op_pick_t rfl rfl ?_)
          | refine rl_step (by decide) (op_pick_f rfl rfl ?_)
          | refine rl_step (by decide) (op_lss rfl rfl ?_)
          | refine rl_step (by decide) (op_leq rfl rfl ?_)
          | refine rl_step (by decide) (op_gtr rfl rfl ?_)
          | refine rl_step (by decide) (op_geq rfl rfl ?_)
          | refine rl_step (by decide) (op_eql rfl rfl ?_)
          | refine rl_step (by decide) (op_neq rfl rfl ?_)
          | refine rl_step (by decide) (op_not rfl ?_)
          | refine rl_step (by decide) (op_min rfl rfl ?_)
          | refine rl_step (by decide) (op_max rfl rfl ?_)
          | refine rl_step (by decide) (op_extract rfl rfl ?_)
          | refine rl_step (by decide) (op_add rfl rfl (by omega) ?_)
          | refine rl_step (by decide) (op_sub rfl rfl (by omega) ?_)
          | refine rl_step (by decide) (op_neg rfl (by omega) ?_)))
      have hnot : ∀ j, j ≤ L.length → q1.length + ((L.take j).flatMap (noteAt notes)).length ≤ 2000000 := fun j _ => by
        have := flat_take_le (noteAt notes) L j
        omega
      have hlL := hvl.le
      refine (run_loop (α := Nat × List Line × Value × Mut) (fun x => [(1, vn), (3, ptr bb), (5, ptr bh), (9, vp), (10, ptr bq), (11, ptr bl), (12, ptr bs), (13, ptr br), (14, .func (.func 45) #[] #[ptr bl, ptr bb, ptr br, ptr bs, ptr bq]), (46, vl), (47, .int .i64 L.length), (48, .int .i64 x.1)])
        (fun x w' => x.1 ≤ L.length ∧ PgJ M w h notes vn bb bh bq x.2.2.2 w' bd x.2.1 ps vb x.2.2.1 vp ∧ Box x.2.2.2 w' bl 11 [.int .i64 n] 3 ∧ Box x.2.2.2 w' bs 12 [.int .i64 s] 3 ∧
          Box x.2.2.2 w' br 13 [.func (.func 44) #[] #[ptr bh, ptr bl, ptr bs]] 63 ∧ SlOf eI x.2.2.2 w' vl L ∧ x.2.1 = q1 ++ (L.take x.1).flatMap (noteAt notes))
        (fun x => L.length - x.1) (0, q1, vq1, M9) ⟨Nat.zero_le _, hJ, hbl, hbs, hbr, hvl, by simp⟩ ?_).sub (by repeat (first | exact trivial | refine ⟨rfl, ?_⟩))
      clear hJ hbl hbs hbr hvl
      rintro ⟨j, q2, vq2, M10⟩ w12 ⟨hj, hJ, hbl, hbs, hbr, hvl, hq2⟩ ih3
      simp only at hj hJ hbl hbs hbr hvl hq2 ih3
      try dsimp only
      (repeat (first
          | refine run_seq ?_
          | refine run_region_l ?_
          | refine rl_nil ?_
          | refine rl_step (by decide) (op_move rfl ?_)
          | refine rl_step (by decide) (op_assign rfl ?_)
          | refine run_block ?_
          | refine run_inBlock ?_
          | refine run_exit rfl ?_
          | refine run_skip ?_
          | refine run_label ?_
          | refine run_true rfl ?_
          | refine run_false rfl ?_
          | refine rl_yes rfl rfl ?_
          | refine rl_no rfl rfl rfl (by decide) ?_
          | refine rl_step (by decide) (op_pick_t rfl rfl ?_)
          | refine rl_step (by decide) (op_pick_f rfl rfl ?_)
          | refine rl_step (by decide) (op_lss rfl rfl ?_)
          | refine rl_step (by decide) (op_leq rfl rfl ?_)
          | refine rl_step (by decide) (op_gtr rfl rfl ?_)
          | refine rl_step (by decide) (op_geq rfl rfl ?_)
          | refine rl_step (by decide) (op_eql rfl rfl ?_)
          | refine rl_step (by decide) (op_neq rfl rfl ?_)
          | refine rl_step (by decide) (op_not rfl ?_)
          | refine rl_step (by decide) (op_min rfl rfl ?_)
          | refine rl_step (by decide) (op_max rfl rfl ?_)
          | refine rl_step (by decide) (op_extract rfl rfl ?_)
          | refine rl_step (by decide) (op_add rfl rfl (by omega) ?_)
          | refine rl_step (by decide) (op_sub rfl rfl (by omega) ?_)
          | refine rl_step (by decide) (op_neg rfl (by omega) ?_)))
      refine run_if rfl (fun hlt2 => ?_) (fun hlt2 => ?_)
      · have hj' : j < L.length := by omega
        have hmr' := hmr L[j] (List.getElem_mem hj')
        have hnl := hnot (j + 1) (by omega)
        rw [flat_take _ _ _ hj', List.length_append] at hnl
        (repeat (first
            | refine run_seq ?_
            | refine run_region_l ?_
            | refine rl_nil ?_
            | refine rl_step (by decide) (op_move rfl ?_)
            | refine rl_step (by decide) (op_assign rfl ?_)
            | refine run_block ?_
            | refine run_inBlock ?_
            | refine run_exit rfl ?_
            | refine run_skip ?_
            | refine run_label ?_
            | refine run_true rfl ?_
            | refine run_false rfl ?_
            | refine rl_yes rfl rfl ?_
            | refine rl_no rfl rfl rfl (by decide) ?_
            | refine rl_step (by decide) (op_pick_t rfl rfl ?_)
            | refine rl_step (by decide) (op_pick_f rfl rfl ?_)
            | refine rl_step (by decide) (op_lss rfl rfl ?_)
            | refine rl_step (by decide) (op_leq rfl rfl ?_)
            | refine rl_step (by decide) (op_gtr rfl rfl ?_)
            | refine rl_step (by decide) (op_geq rfl rfl ?_)
            | refine rl_step (by decide) (op_eql rfl rfl ?_)
            | refine rl_step (by decide) (op_neq rfl rfl ?_)
            | refine rl_step (by decide) (op_not rfl ?_)
            | refine rl_step (by decide) (op_min rfl rfl ?_)
            | refine rl_step (by decide) (op_max rfl rfl ?_)
            | refine rl_step (by decide) (op_extract rfl rfl ?_)
            | refine rl_step (by decide) (op_add rfl rfl (by omega) ?_)
            | refine rl_step (by decide) (op_sub rfl rfl (by omega) ?_)
            | refine rl_step (by decide) (op_neg rfl (by omega) ?_)))
        refine rl_step (by decide) (op_indexAddr uI teI rfl rfl hvl (by omega) ?_)
        intro ad2 _ he2
        refine rl_step (by decide) (op_load teI rfl he2 ?_)
        intro u hu
        rw [eI_V] at hu
        obtain ⟨rfl, hu5⟩ := hu
        simp only [Int.toNat_natCast]
        (repeat (first
            | refine run_seq ?_
            | refine run_region_l ?_
            | refine rl_nil ?_
            | refine rl_step (by decide) (op_move rfl ?_)
            | refine rl_step (by decide) (op_assign rfl ?_)
            | refine run_block ?_
            | refine run_inBlock ?_
            | refine run_exit rfl ?_
            | refine run_skip ?_
            | refine run_label ?_
            | refine run_true rfl ?_
            | refine run_false rfl ?_
            | refine rl_yes rfl rfl ?_
            | refine rl_no rfl rfl rfl (by decide) ?_
            | refine rl_step (by decide) (op_pick_t rfl rfl ?_)
            | refine rl_step (by decide) (op_pick_f rfl rfl ?_)
            | refine rl_step (by decide) (op_lss rfl rfl ?_)
            | refine rl_step (by decide) (op_leq rfl rfl ?_)
            | refine rl_step (by decide) (op_gtr rfl rfl ?_)
            | refine rl_step (by decide) (op_geq rfl rfl ?_)
            | refine rl_step (by decide) (op_eql rfl rfl ?_)
            | refine rl_step (by decide) (op_neq rfl rfl ?_)
            | refine rl_step (by decide) (op_not rfl ?_)
            | refine rl_step (by decide) (op_min rfl rfl ?_)
            | refine rl_step (by decide) (op_max rfl rfl ?_)
            | refine rl_step (by decide) (op_extract rfl rfl ?_)
            | refine rl_step (by decide) (op_add rfl rfl (by omega) ?_)
            | refine rl_step (by decide) (op_sub rfl rfl (by omega) ?_)
            | refine rl_step (by decide) (op_neg rfl (by omega) ?_)))
        refine region_dr (M := M10) 5 2 [] mixed rfl (by kernel_rfl) (fun w1 hs1 => ?_)
        replace hbl := hbl.up hs1
        replace hbs := hbs.up hs1
        replace hbr := hbr.up hs1
        replace hvl := hvl.mono hs1.x
        replace hJ := hJ.up hs1
        clear hs1 he2
        refine dr_cons (isv vq2) (by decide) (mono_isv _) (ob0 rfl fun M w' hs => opg (op_load1 tdSL rfl (hJ.bq.up hs) rfl ⟨_, UpM.refl _ _, rfl⟩)) ?_
        refine dr_cons (isv _) (by decide) (mono_isv _) (ob0 rfl fun M w hs => opg (op_move rfl ⟨_, UpM.refl _ _, rfl⟩)) ?_
        refine dr_cons (isv _) (by decide) (mono_isv _) (ob0 rfl fun M w hs => opg (op_move rfl ⟨_, UpM.refl _ _, rfl⟩)) ?_
        refine dr_cons (isPtr (eSl eLine) (noteAt notes L[j])) (by decide) (mono_isPtr _ _) (ob2 rfl fun M w' hs2 v1 h1 v2 h2 => ?_) ?_
        · cases h1; cases h2
          refine opg (op_indexAddr uLL teSL rfl rfl (hJ.sn.mono hs2.x) hmr' ?_)
          intro ad3 hn3 he3
          exact ⟨_, UpM.refl _ _, ad3, rfl, by rw [noteAt_get hn3]; exact he3⟩
        refine dr_cons (isSl eLine (noteAt notes L[j])) (by decide) (mono_isSl _ _) (ob1 rfl fun M w' hs2 v1 h1 => ?_) ?_
        · obtain ⟨ad3, rfl, he3⟩ := h1
          exact opg (op_load teSL rfl he3 fun u hu => ⟨_, UpM.refl _ _, eSl_V.1 hu⟩)
        refine dr_nil rfl (fun M11 w14 val hs2 hall2 => ?_)
        obtain ⟨h56, _, _, _, h52, _⟩ := hall2
        have e52 : val 52 = _ := h52
        replace hbl := hbl.up hs2
        replace hbs := hbs.up hs2
        replace hbr := hbr.up hs2
        replace hvl := hvl.mono hs2.x
        replace hJ := hJ.up hs2
        refine RT.sub (fr' := [(1, vn), (3, ptr bb), (5, ptr bh), (9, vp), (10, ptr bq), (11, ptr bl), (12, ptr bs), (13, ptr br), (14, .func (.func 45) #[] #[ptr bl, ptr bb, ptr br, ptr bs, ptr bq]), (46, vl), (47, .int .i64 L.length), (48, .int .i64 j), (52, val 52), (56, val 56)]) ?_ (by repeat (first | exact trivial | refine ⟨rfl, ?_⟩))
        rw [e52]
        generalize val 56 = v56 at h56
        clear hs2 h52 e52
        refine rt_one (i := 5) (by kernel_rfl) rfl (by decide) (op_append (E := eLine) (tag := 4) uL teL rfl rfl hJ.rn hJ.sq hJ.gq h56 (by rw [hq2, List.length_append]; show _ * 64 ≤ _; omega) ?_)
        intro vq3 w15 M12 hsq hgq hst
        obtain ⟨a3, c3, q3, _⟩ := hsq.ex
        refine rt_one0 (i := 6) (by kernel_rfl) rfl (op_store (c := [vq3]) tdSL rfl rfl (by rw [q3]; rfl) (by rw [q3]; simp [Value.oneCell']) rfl (hJ.rn.st hst) hBq (hJ.bq.st hst (by decide)) (by simp) ?_)
        intro w16 hbq hst2
        have hJ' : PgJ M w h notes vn bb bh bq M12 w16 bd (q2 ++ noteAt notes L[j]) ps vb vq3 vp :=
          ⟨(hJ.rn.st hst).st hst2, (hJ.bb.st hst (by decide)).st hst2 (by decide), (hJ.bh.st hst (by decide)).st hst2 (by decide), hbq, (hJ.sb.mono hst.x).mono hst2.x, hsq.mono hst2.x, hgq.st hst2 (by decide),
            (hJ.sp.mono hst.x).mono hst2.x, (hJ.gp.st hst (by decide)).st hst2 (by decide), (hJ.sn.mono hst.x).mono hst2.x, hJ.hr⟩
        replace hbl := (hbl.st hst (by decide)).st hst2 (by decide)
        replace hbs := (hbs.st hst (by decide)).st hst2 (by decide)
        replace hbr := (hbr.st hst (by decide)).st hst2 (by decide)
        replace hvl := (hvl.mono hst.x).mono hst2.x
        refine rt_nil (by kernel_rfl) ?_
        (repeat (first
            | refine run_seq ?_
            | refine run_region_l ?_
            | refine rl_nil ?_
            | refine rl_step (by decide) (op_move rfl ?_)
            | refine rl_step (by decide) (op_assign rfl ?_)
            | refine run_block ?_
            | refine run_inBlock ?_
            | refine run_exit rfl ?_
            | refine run_skip ?_
            | refine run_label ?_
            | refine run_true rfl ?_
            | refine run_false rfl ?_
            | refine rl_yes rfl rfl ?_
            | refine rl_no rfl rfl rfl (by decide) ?_
            | refine rl_step (by decide) (op_pick_t rfl rfl ?_)
            | refine rl_step (by decide) (op_pick_f rfl rfl ?_)
            | refine rl_step (by decide) (op_lss rfl rfl ?_)
            | refine rl_step (by decide) (op_leq rfl rfl ?_)
            | refine rl_step (by decide) (op_gtr rfl rfl ?_)
            | refine rl_step (by decide) (op_geq rfl rfl ?_)
            | refine rl_step (by decide) (op_eql rfl rfl ?_)
            | refine rl_step (by decide) (op_neq rfl rfl ?_)
            | refine rl_step (by decide) (op_not rfl ?_)
            | refine rl_step (by decide) (op_min rfl rfl ?_)
            | refine rl_step (by decide) (op_max rfl rfl ?_)
            | refine rl_step (by decide) (op_extract rfl rfl ?_)
            | refine rl_step (by decide) (op_add rfl rfl (by omega) ?_)
            | refine rl_step (by decide) (op_sub rfl rfl (by omega) ?_)
            | refine rl_step (by decide) (op_neg rfl (by omega) ?_)))
        exact (ih3 (j + 1, _, _, _) _ ⟨by show j + 1 ≤ _; omega, hJ', hbl, hbs, hbr, hvl, by show _ = _; rw [hq2, flat_take _ _ _ hj', List.append_assoc]⟩ (by show _ - (j + 1) < _ - j; omega)).sub (by repeat (first | exact trivial | refine ⟨rfl, ?_⟩))
      · have hjL : j = L.length := by omega
        subst hjL
        rw [List.take_length] at hq2
        have hq2l : q2.length = q1.length + (L.flatMap (noteAt notes)).length := by rw [hq2, List.length_append]
        have hgb := growM_bd h (n + 1) s q2.length hs.1 (by omega) hfb.1 (fun e1 e2 => by
          rcases hfb.2 with h3 | h3
          · have := hs0 e1
            rw [h3] at hq2l
            simp at hq2l
            omega
          · omega)
        rw [← hq2] at hfill
        (repeat (first
            | refine run_seq ?_
            | refine run_region_l ?_
            | refine rl_nil ?_
            | refine rl_step (by decide) (op_move rfl ?_)
            | refine rl_step (by decide) (op_assign rfl ?_)
            | refine run_block ?_
            | refine run_inBlock ?_
            | refine run_exit rfl ?_
            | refine run_skip ?_
            | refine run_label ?_
            | refine run_true rfl ?_
            | refine run_false rfl ?_
            | refine rl_yes rfl rfl ?_
            | refine rl_no rfl rfl rfl (by decide) ?_
            | refine rl_step (by decide) (op_pick_t rfl rfl ?_)
            | refine rl_step (by decide) (op_pick_f rfl rfl ?_)
            | refine rl_step (by decide) (op_lss rfl rfl ?_)
            | refine rl_step (by decide) (op_leq rfl rfl ?_)
            | refine rl_step (by decide) (op_gtr rfl rfl ?_)
            | refine rl_step (by decide) (op_geq rfl rfl ?_)
            | refine rl_step (by decide) (op_eql rfl rfl ?_)
            | refine rl_step (by decide) (op_neq rfl rfl ?_)
            | refine rl_step (by decide) (op_not rfl ?_)
            | refine rl_step (by decide) (op_min rfl rfl ?_)
            | refine rl_step (by decide) (op_max rfl rfl ?_)
            | refine rl_step (by decide) (op_extract rfl rfl ?_)
            | refine rl_step (by decide) (op_add rfl rfl (by omega) ?_)
            | refine rl_step (by decide) (op_sub rfl rfl (by omega) ?_)
            | refine rl_step (by decide) (op_neg rfl (by omega) ?_)))
        refine rl_step (by decide) (op_load1 tdI rfl hbl rfl ?_)
        (repeat (first
            | refine run_seq ?_
            | refine run_region_l ?_
            | refine rl_nil ?_
            | refine rl_step (by decide) (op_move rfl ?_)
            | refine rl_step (by decide) (op_assign rfl ?_)
            | refine run_block ?_
            | refine run_inBlock ?_
            | refine run_exit rfl ?_
            | refine run_skip ?_
            | refine run_label ?_
            | refine run_true rfl ?_
            | refine run_false rfl ?_
            | refine rl_yes rfl rfl ?_
            | refine rl_no rfl rfl rfl (by decide) ?_
            | refine rl_step (by decide) (op_pick_t rfl rfl ?_)
            | refine rl_step (by decide) (op_pick_f rfl rfl ?_)
            | refine rl_step (by decide) (op_lss rfl rfl ?_)
            | refine rl_step (by decide) (op_leq rfl rfl ?_)
            | refine rl_step (by decide) (op_gtr rfl rfl ?_)
            | refine rl_step (by decide) (op_geq rfl rfl ?_)
            | refine rl_step (by decide) (op_eql rfl rfl ?_)
            | refine rl_step (by decide) (op_neq rfl rfl ?_)
            | refine rl_step (by decide) (op_not rfl ?_)
            | refine rl_step (by decide) (op_min rfl rfl ?_)
            | refine rl_step (by decide) (op_max rfl rfl ?_)
            | refine rl_step (by decide) (op_extract rfl rfl ?_)
            | refine rl_step (by decide) (op_add rfl rfl (by omega) ?_)
            | refine rl_step (by decide) (op_sub rfl rfl (by omega) ?_)
            | refine rl_step (by decide) (op_neg rfl (by omega) ?_)))
        refine rl_step0 (op_store (c := [.int .i64 (n + 1)]) tdI rfl rfl rfl (by simp [Value.oneCell']) rfl hJ.rn hBl hbl (by simp) ?_)
        intro w13 hbl hst
        replace hbl : Box M10 w13 bl 11 [.int .i64 (n + 1)] 3 := hbl
        replace hbs := hbs.st hst (by decide)
        replace hbr := hbr.st hst (by decide)
        replace hJ := hJ.st hst (by decide)
        clear hst hvl
        (repeat (first
            | refine run_seq ?_
            | refine run_region_l ?_
            | refine rl_nil ?_
            | refine rl_step (by decide) (op_move rfl ?_)
            | refine rl_step (by decide) (op_assign rfl ?_)
            | refine run_block ?_
            | refine run_inBlock ?_
            | refine run_exit rfl ?_
            | refine run_skip ?_
            | refine run_label ?_
            | refine run_true rfl ?_
            | refine run_false rfl ?_
            | refine rl_yes rfl rfl ?_
            | refine rl_no rfl rfl rfl (by decide) ?_
            | refine rl_step (by decide) (op_pick_t rfl rfl ?_)
            | refine rl_step (by decide) (op_pick_f rfl rfl ?_)
            | refine rl_step (by decide) (op_lss rfl rfl ?_)
            | refine rl_step (by decide) (op_leq rfl rfl ?_)
            | refine rl_step (by decide) (op_gtr rfl rfl ?_)
            | refine rl_step (by decide) (op_geq rfl rfl ?_)
            | refine rl_step (by decide) (op_eql rfl rfl ?_)
            | refine rl_step (by decide) (op_neq rfl rfl ?_)
            | refine rl_step (by decide) (op_not rfl ?_)
            | refine rl_step (by decide) (op_min rfl rfl ?_)
            | refine rl_step (by decide) (op_max rfl rfl ?_)
            | refine rl_step (by decide) (op_extract rfl rfl ?_)
            | refine rl_step (by decide) (op_add rfl rfl (by omega) ?_)
            | refine rl_step (by decide) (op_sub rfl rfl (by omega) ?_)
            | refine rl_step (by decide) (op_neg rfl (by omega) ?_)))
        refine rl_step (by decide) (op_load1 tdSL rfl hJ.bq rfl ?_)
        refine rl_step (by decide) (op_len uL rfl hJ.sq ?_)
        refine rl_step (by decide) (op_load1 tdI rfl hbs rfl ?_)
        (repeat (first
            | refine run_seq ?_
            | refine run_region_l ?_
            | refine rl_nil ?_
            | refine rl_step (by decide) (op_move rfl ?_)
            | refine rl_step (by decide) (op_assign rfl ?_)
            | refine run_block ?_
            | refine run_inBlock ?_
            | refine run_exit rfl ?_
            | refine run_skip ?_
            | refine run_label ?_
            | refine run_true rfl ?_
            | refine run_false rfl ?_
            | refine rl_yes rfl rfl ?_
            | refine rl_no rfl rfl rfl (by decide) ?_
            | refine rl_step (by decide) (op_pick_t rfl rfl ?_)
            | refine rl_step (by decide) (op_pick_f rfl rfl ?_)
            | refine rl_step (by decide) (op_lss rfl rfl ?_)
            | refine rl_step (by decide) (op_leq rfl rfl ?_)
            | refine rl_step (by decide) (op_gtr rfl rfl ?_)
            | refine rl_step (by decide) (op_geq rfl rfl ?_)
            | refine rl_step (by decide) (op_eql rfl rfl ?_)
            | refine rl_step (by decide) (op_neq rfl rfl ?_)
            | refine rl_step (by decide) (op_not rfl ?_)
            | refine rl_step (by decide) (op_min rfl rfl ?_)
            | refine rl_step (by decide) (op_max rfl rfl ?_)
            | refine rl_step (by decide) (op_extract rfl rfl ?_)
            | refine rl_step (by decide) (op_add rfl rfl (by omega) ?_)
            | refine rl_step (by decide) (op_sub rfl rfl (by omega) ?_)
            | refine rl_step (by decide) (op_neg rfl (by omega) ?_)))
        refine run_if rfl (fun hmore => ?_) (fun hmore => ?_)
        · (repeat (first
              | refine run_seq ?_
              | refine run_region_l ?_
              | refine rl_nil ?_
              | refine rl_step (by decide) (op_move rfl ?_)
              | refine rl_step (by decide) (op_assign rfl ?_)
              | refine run_block ?_
              | refine run_inBlock ?_
              | refine run_exit rfl ?_
              | refine run_skip ?_
              | refine run_label ?_
              | refine run_true rfl ?_
              | refine run_false rfl ?_
              | refine rl_yes rfl rfl ?_
              | refine rl_no rfl rfl rfl (by decide) ?_
              | refine rl_step (by decide) (op_pick_t rfl rfl ?_)
              | refine rl_step (by decide) (op_pick_f rfl rfl ?_)
              | refine rl_step (by decide) (op_lss rfl rfl ?_)
              | refine rl_step (by decide) (op_leq rfl rfl ?_)
              | refine rl_step (by decide) (op_gtr rfl rfl ?_)
              | refine rl_step (by decide) (op_geq rfl rfl ?_)
              | refine rl_step (by decide) (op_eql rfl rfl ?_)
              | refine rl_step (by decide) (op_neq rfl rfl ?_)
              | refine rl_step (by decide) (op_not rfl ?_)
              | refine rl_step (by decide) (op_min rfl rfl ?_)
              | refine rl_step (by decide) (op_max rfl rfl ?_)
              | refine rl_step (by decide) (op_extract rfl rfl ?_)
              | refine rl_step (by decide) (op_add rfl rfl (by omega) ?_)
              | refine rl_step (by decide) (op_sub rfl rfl (by omega) ?_)
              | refine rl_step (by decide) (op_neg rfl (by omega) ?_)))
          refine region_dr (M := M10) 10 1 [] mixed rfl (by kernel_rfl) (fun w1 hs1 => ?_)
          replace hbl := hbl.up hs1
          replace hbs := hbs.up hs1
          replace hbr := hbr.up hs1
          replace hJ := hJ.up hs1
          clear hs1
          refine dr_cons (isv (.int .i64 s)) (by decide) (mono_isv _) (ob0 rfl fun M w' hs2 => opg (op_load1 tdI rfl (hbs.up hs2) rfl ⟨_, UpM.refl _ _, rfl⟩)) ?_
          refine dr_cons (isv _) (by decide) (mono_isv _) (ob0 rfl fun M w hs => opg (op_move rfl ⟨_, UpM.refl _ _, rfl⟩)) ?_
          refine dr_cons (isv (.func (.func 44) #[] #[ptr bh, ptr bl, ptr bs])) (by decide) (mono_isv _) (ob0 rfl fun M w' hs2 => opg (op_load1 tdF rfl (hbr.up hs2) rfl ⟨_, UpM.refl _ _, rfl⟩)) ?_
          refine dr_cons (isv (.int .i64 (h - (n + 1) - s - min s 1))) (by decide) (mono_isv _) (ob1 rfl fun M w' hs2 v1 k1 => ?_) ?_
          · cases k1
            refine opg (op_callv (cap := [ptr bh, ptr bl, ptr bs]) ent44 rfl rfl (room_c M w' bh bl bs 5 11 12 h (n + 1) s (hJ.bh.up hs2) (hbl.up hs2) (hbs.up hs2) (by omega) (by omega) (by omega)) ?_)
            rintro r w1 ⟨rfl, rfl⟩
            exact ⟨_, UpM.refl _ _, rfl⟩
          refine dr_cons (isv (.int .i64 (h - (n + 1) - s - min s 1 - 1))) (by decide) (mono_isv _) (ob1 rfl fun M w' hs2 v1 k1 => ?_) ?_
          · cases k1; exact opg (op_sub rfl rfl (by omega) ⟨_, UpM.refl _ _, rfl⟩)
          refine dr_cons (isv (.int .i64 s)) (by decide) (mono_isv _) (ob0 rfl fun M w' hs2 => opg (op_load1 tdI rfl (hbs.up hs2) rfl ⟨_, UpM.refl _ _, rfl⟩)) ?_
          refine dr_cons (isv (.int .i64 (min s 1))) (by decide) (mono_isv _) (ob1 rfl fun M w' hs2 v1 k1 => ?_) ?_
          · cases k1; exact opg (op_min rfl rfl ⟨_, UpM.refl _ _, rfl⟩)
          refine dr_cons (isv (.int .i64 (h - (n + 1) - s - min s 1 - 1 + min s 1))) (by decide) (mono_isv _) (ob2 rfl fun M w' hs2 v1 k1 v2 k2 => ?_) ?_
          · cases k1; cases k2; exact opg (op_add rfl rfl (by omega) ⟨_, UpM.refl _ _, rfl⟩)
          refine dr_cons (isv (.int .i64 (min (q2.length - s) (h - (n + 1) - s - min s 1 - 1 + min s 1)))) (by decide) (mono_isv _) (ob2 rfl fun M w' hs2 v1 k1 v2 k2 => ?_) ?_
          · cases k1; cases k2; exact opg (op_min rfl rfl ⟨_, UpM.refl _ _, rfl⟩)
          refine dr_cons (isv (.int .i64 (s + min (q2.length - s) (h - (n + 1) - s - min s 1 - 1 + min s 1)))) (by decide) (mono_isv _) (ob2 rfl fun M w' hs2 v1 k1 v2 k2 => ?_) ?_
          · cases k1; cases k2; exact opg (op_add rfl rfl (by omega) ⟨_, UpM.refl _ _, rfl⟩)
          refine dr_nil rfl (fun M11 w14 val hs2 hall2 => ?_)
          obtain ⟨h76, _⟩ := hall2
          have e76 : val 76 = _ := h76
          replace hbl := hbl.up hs2
          replace hbs := hbs.up hs2
          replace hbr := hbr.up hs2
          replace hJ := hJ.up hs2
          have hg : growM h (n + 1) s q2.length = s + min (q2.length - s) (h - (n + 1) - s - min s 1 - 1 + min s 1) := if_pos hmore
          rw [← hg] at e76
          refine RT.sub (fr' := [(1, vn), (3, ptr bb), (5, ptr bh), (9, vp), (10, ptr bq), (11, ptr bl), (12, ptr bs), (13, ptr br), (14, .func (.func 45) #[] #[ptr bl, ptr bb, ptr br, ptr bs, ptr bq]), (76, val 76)]) ?_ (by repeat (first | exact trivial | refine ⟨rfl, ?_⟩))
          rw [e76]
          clear hs2 h76 e76 hg
          refine rt_one0 (i := 10) (by kernel_rfl) rfl (op_store (c := [.int .i64 (growM h (n + 1) s q2.length)]) tdI rfl rfl rfl (by simp [Value.oneCell']) rfl hJ.rn hBs hbs (by simp) ?_)
          intro w15 hbs hst
          replace hbs : Box M11 w15 bs 12 [.int .i64 (growM h (n + 1) s q2.length)] 3 := hbs
          replace hbl := hbl.st hst (by decide)
          replace hbr := hbr.st hst (by decide)
          replace hJ := hJ.st hst (by decide)
          refine rt_nil (by kernel_rfl) ?_
          (repeat (first
              | refine run_seq ?_
              | refine run_region_l ?_
              | refine rl_nil ?_
              | refine rl_step (by decide) (op_move rfl ?_)
              | refine rl_step (by decide) (op_assign rfl ?_)
              | refine run_block ?_
              | refine run_inBlock ?_
              | refine run_exit rfl ?_
              | refine run_skip ?_
              | refine run_label ?_
              | refine run_true rfl ?_
              | refine run_false rfl ?_
              | refine rl_yes rfl rfl ?_
              | refine rl_no rfl rfl rfl (by decide) ?_
              | refine rl_step (by decide) (op_pick_t rfl rfl ?_)
              | refine rl_step (by decide) (op_pick_f rfl rfl ?_)
              | refine rl_step (by decide) (op_lss rfl rfl ?_)
              | refine rl_step (by decide) (op_leq rfl rfl ?_)
              | refine rl_step (by decide) (op_gtr rfl rfl ?_)
              | refine rl_step (by decide) (op_geq rfl rfl ?_)
              | refine rl_step (by decide) (op_eql rfl rfl ?_)
              | refine rl_step (by decide) (op_neq rfl rfl ?_)
              | refine rl_step (by decide) (op_not rfl ?_)
              | refine rl_step (by decide) (op_min rfl rfl ?_)
              | refine rl_step (by decide) (op_max rfl rfl ?_)
              | refine rl_step (by decide) (op_extract rfl rfl ?_)
              | refine rl_step (by decide) (op_add rfl rfl (by omega) ?_)
              | refine rl_step (by decide) (op_sub rfl rfl (by omega) ?_)
              | refine rl_step (by decide) (op_neg rfl (by omega) ?_)))
          generalize growM h (n + 1) s q2.length = s' at hgb hfill hbs
          refine (ih2 ⟨n + 1, s', q2, vq2, M11⟩ _ ⟨hJ, hbl, hbs, hbr, ⟨by simp only; omega, by simp only; omega⟩, ⟨by simp only; omega, hgb.2.1⟩, hgb.2.2.1, by simp only; omega, ?_, by simp only; omega, by simp only; omega, ?_⟩ (by simp only; omega)).sub (by repeat (first | exact trivial | refine ⟨rfl, ?_⟩))
          · simp only
            rw [show (n + 1).toNat = n.toNat + 1 by omega]
            omega
          · simp only
            rw [show (n + 1).toNat = n.toNat + 1 by omega]
            exact hfill
        · (repeat (first
              | refine run_seq ?_
              | refine run_region_l ?_
              | refine rl_nil ?_
              | refine rl_step (by decide) (op_move rfl ?_)
              | refine rl_step (by decide) (op_assign rfl ?_)
              | refine run_block ?_
              | refine run_inBlock ?_
              | refine run_exit rfl ?_
              | refine run_skip ?_
              | refine run_label ?_
              | refine run_true rfl ?_
              | refine run_false rfl ?_
              | refine rl_yes rfl rfl ?_
              | refine rl_no rfl rfl rfl (by decide) ?_
              | refine rl_step (by decide) (op_pick_t rfl rfl ?_)
              | refine rl_step (by decide) (op_pick_f rfl rfl ?_)
              | refine rl_step (by decide) (op_lss rfl rfl ?_)
              | refine rl_step (by decide) (op_leq rfl rfl ?_)
              | refine rl_step (by decide) (op_gtr rfl rfl ?_)
              | refine rl_step (by decide) (op_geq rfl rfl ?_)
              | refine rl_step (by decide) (op_eql rfl rfl ?_)
              | refine rl_step (by decide) (op_neq rfl rfl ?_)
              | refine rl_step (by decide) (op_not rfl ?_)
              | refine rl_step (by decide) (op_min rfl rfl ?_)
              | refine rl_step (by decide) (op_max rfl rfl ?_)
              | refine rl_step (by decide) (op_extract rfl rfl ?_)
              | refine rl_step (by decide) (op_add rfl rfl (by omega) ?_)
              | refine rl_step (by decide) (op_sub rfl rfl (by omega) ?_)
              | refine rl_step (by decide) (op_neg rfl (by omega) ?_)))
          have hg : growM h (n + 1) s q2.length = s := if_neg hmore
          rw [hg] at hgb hfill
          refine (ih2 ⟨n + 1, s, q2, vq2, M10⟩ _ ⟨hJ, hbl, hbs, hbr, ⟨by simp only; omega, by simp only; omega⟩, ⟨hs.1, hgb.2.1⟩, hgb.2.2.1, by simp only; omega, ?_, hmin, by simp only; omega, ?_⟩ (by simp only; omega)).sub (by repeat (first | exact trivial | refine ⟨rfl, ?_⟩))
          · simp only
            rw [show (n + 1).toNat = n.toNat + 1 by omega]
            omega
          · simp only
            rw [show (n + 1).toNat = n.toNat + 1 by omega]
            exact hfill
    · (repeat (first
          | refine run_seq ?_
          | refine run_region_l ?_
          | refine rl_nil ?_
          | refine rl_step (by decide) (op_move rfl ?_)
          | refine rl_step (by decide) (op_assign rfl ?_)
          | refine run_block ?_
          | refine run_inBlock ?_
          | refine run_exit rfl ?_
          | refine run_skip ?_
          | refine run_label ?_
          | refine run_true rfl ?_
          | refine run_false rfl ?_
          | refine rl_yes rfl rfl ?_
          | refine rl_no rfl rfl rfl (by decide) ?_
          | refine rl_step (by decide) (op_pick_t rfl rfl ?_)
          | refine rl_step (by decide) (op_pick_f rfl rfl ?_)
          | refine rl_step (by decide) (op_lss rfl rfl ?_)
          | refine rl_step (by decide) (op_leq rfl rfl ?_)
          | refine rl_step (by decide) (op_gtr rfl rfl ?_)
          | refine rl_step (by decide) (op_geq rfl rfl ?_)
          | refine rl_step (by decide) (op_eql rfl rfl ?_)
          | refine rl_step (by decide) (op_neq rfl rfl ?_)
          | refine rl_step (by decide) (op_not rfl ?_)
          | refine rl_step (by decide) (op_min rfl rfl ?_)
          | refine rl_step (by decide) (op_max rfl rfl ?_)
          | refine rl_step (by decide) (op_extract rfl rfl ?_)
          | refine rl_step (by decide) (op_add rfl rfl (by omega) ?_)
          | refine rl_step (by decide) (op_sub rfl rfl (by omega) ?_)
          | refine rl_step (by decide) (op_neg rfl (by omega) ?_)))
      have hprog : 0 < n + s := by
        rcases Int.lt_or_eq_of_le hn.1 with h' | h'
        · omega
        · obtain ⟨e1, e2⟩ := hn0 h'.symm
          rcases Nat.eq_zero_or_pos q.length with h2 | h2
          · have hlt : n.toNat < bd.length := by omega
            rw [List.getElem?_eq_getElem hlt] at hb
            simp only at hb
            have h3 : s = 0 := by omega
            generalize bd[n.toNat] = x at hb
            rw [← h', h3, e2, h2, show ((0 : Nat) : Int) = 0 from rfl] at hb
            rw [fits_first x hh1] at hb
            cases hb
          · omega
      have hfin : fillM h notes bd 0 q (min q.length (h - 1)) = (n, q1, s) := by
        rw [← hfill]
        rcases Nat.lt_or_ge n.toNat bd.length with h' | h'
        · rw [List.getElem?_eq_getElem h'] at hb
          simp only at hb
          rw [List.drop_eq_getElem_cons h', fillM, hb]
          rfl
        · rw [List.drop_eq_nil_of_le h', fillM]
      have hset : ∃ f', f = f' + 1 ∧ setM h notes f bd q = ⟨0, 0, 0, 0, bd.take n.toNat, q1.take s.toNat⟩ :: setM h notes f' (bd.drop n.toNat) (q1.drop s.toNat) := by
        refine ⟨f - 1, by omega, ?_⟩
        have hne : (bd.isEmpty && q.isEmpty) = false := by
          rw [Bool.and_eq_false_iff]
          rcases Nat.eq_zero_or_pos bd.length with h1 | h1
          · right
            cases q with
            | nil => simp at hne'; omega
            | cons => rfl
          · left
            cases bd with
            | nil => simp at h1
            | cons => rfl
        rw [show f = (f - 1) + 1 by omega, setM, hne, hfin]
        simp
      obtain ⟨f', rfl, hset⟩ := hset
      rw [hset, List.append_cons] at hall
      clear hb hfill hset hfin hn0
      refine region_dr (M := M9) 11 2 [] mixed rfl (by kernel_rfl) (fun w1 hs1 => ?_)
      replace hbl := hbl.up hs1
      replace hbs := hbs.up hs1
      replace hJ := hJ.up hs1
      clear hs1 hbr
      refine dr_cons (isv _) (by decide) (mono_isv _) (ob0 rfl fun M w hs => opg (op_move rfl ⟨_, UpM.refl _ _, rfl⟩)) ?_
      refine dr_cons (isv vb) (by decide) (mono_isv _) (ob0 rfl fun M w' hs2 => opg (op_load1 tdSL rfl (hJ.bb.up hs2) rfl ⟨_, UpM.refl _ _, rfl⟩)) ?_
      refine dr_cons (isv (.int .i64 n)) (by decide) (mono_isv _) (ob0 rfl fun M w' hs2 => opg (op_load1 tdI rfl (hbl.up hs2) rfl ⟨_, UpM.refl _ _, rfl⟩)) ?_
      refine dr_cons (isSl eLine (bd.take n.toNat)) (by decide) (mono_isSl _ _) (ob2 rfl fun M w' hs2 v1 k1 v2 k2 => ?_) ?_
      · cases k1; cases k2
        exact opg (op_slice_h uL teL rfl rfl (hJ.sb.mono hs2.x) hn fun u hu => ⟨_, UpM.refl _ _, hu⟩)
      refine dr_cons (isSl eLine (bd.take n.toNat)) (by decide) (mono_isSl _ _) (ob1 rfl fun M w' hs2 v1 k1 => ?_) ?_
      · exact opg (op_call ent46 rfl (clone_c M _ _ _ (hs2.mb hJ.rn.mb) k1) fun u w2 hu => ⟨_, UpM.of_below hu.1, hu.2⟩)
      refine dr_cons (isv vq1) (by decide) (mono_isv _) (ob0 rfl fun M w' hs2 => opg (op_load1 tdSL rfl (hJ.bq.up hs2) rfl ⟨_, UpM.refl _ _, rfl⟩)) ?_
      refine dr_cons (isv (.int .i64 s)) (by decide) (mono_isv _) (ob0 rfl fun M w' hs2 => opg (op_load1 tdI rfl (hbs.up hs2) rfl ⟨_, UpM.refl _ _, rfl⟩)) ?_
      refine dr_cons (isSl eLine (q1.take s.toNat)) (by decide) (mono_isSl _ _) (ob2 rfl fun M w' hs2 v1 k1 v2 k2 => ?_) ?_
      · cases k1; cases k2
        exact opg (op_slice_h uL teL rfl rfl (hJ.sq.mono hs2.x) hs fun u hu => ⟨_, UpM.refl _ _, hu⟩)
      refine dr_cons (isSl eLine (q1.take s.toNat)) (by decide) (mono_isSl _ _) (ob1 rfl fun M w' hs2 v1 k1 => ?_) ?_
      · exact opg (op_call ent46 rfl (clone_c M _ _ _ (hs2.mb hJ.rn.mb) k1) fun u w2 hu => ⟨_, UpM.of_below hu.1, hu.2⟩)
      refine dr_cons (isV ePg ⟨0, 0, 0, 0, bd.take n.toNat, q1.take s.toNat⟩) (by decide) (mono_isV _ _) (ob2 rfl fun M w' hs2 v1 k1 v2 k2 => ?_) ?_
      · obtain ⟨a1, c1, q1', _⟩ := SlOf.ex k1
        obtain ⟨a2, c2, q2', _⟩ := SlOf.ex k2
        refine opg (op_build (parts := [(3, .tmp 81), (4, .tmp 85)]) (vs := [v1, v2]) (pl := [(4, [v1]), (5, [v2])]) sbP rfl ⟨rfl, by rw [q1']; rfl, Nat.le_of_ble_eq_true rfl, rfl, by rw [q2']; rfl, Nat.le_of_ble_eq_true rfl, trivial⟩ ⟨_, UpM.refl _ _, ?_⟩)
        exact ePg_V.2 ⟨v1, v2, rfl, ⟨by unfold I64; simp, by unfold I64; simp, by unfold I64; simp, by unfold I64; simp⟩, k1, k2⟩
      refine dr_cons (isSl ePg [⟨0, 0, 0, 0, bd.take n.toNat, q1.take s.toNat⟩]) (by decide) (mono_isSl _ _) (ob1 rfl fun M w' hs2 v1 k1 => ?_) ?_
      · exact opg (op_buildSlice (E := ePg) (n := 1) (parts := [(0, .tmp 86)]) (vs := [v1]) (l := [⟨0, 0, 0, 0, bd.take n.toNat, q1.take s.toNat⟩]) uP teP (hJ.rn.up hs2) rfl rfl ⟨k1, trivial⟩ rfl ⟨by simp [ePg, Enc.via, Enc.app, eSl, eN], by simp [ePg, Enc.via]⟩ fun u w2 hu _ hbel => ⟨_, UpM.of_below hbel, hu⟩)
      refine dr_nil rfl (fun M11 w14 val hs2 hall2 => ?_)
      obtain ⟨h87, _, _, _, _, _, _, _, _, _, h77, _⟩ := hall2
      have e77 : val 77 = _ := h77
      replace hbl := hbl.up hs2
      replace hbs := hbs.up hs2
      replace hJ := hJ.up hs2
      refine RT.sub (fr' := [(1, vn), (3, ptr bb), (5, ptr bh), (10, ptr bq), (11, ptr bl), (12, ptr bs), (77, val 77), (87, val 87)]) ?_ (by repeat (first | exact trivial | refine ⟨rfl, ?_⟩))
      rw [e77]
      generalize val 87 = v87 at h87
      clear hs2 h77 e77
      refine rt_one (i := 11) (by kernel_rfl) rfl (by decide) (op_append (E := ePg) (tag := 9) uP teP rfl rfl hJ.rn hJ.sp hJ.gp h87 (by show (ps.length + 1) * 80 ≤ _; omega) ?_)
      intro vp2 w15 M12 hsp hgp hst
      replace hbl := hbl.st hst (by decide)
      replace hbs := hbs.st hst (by decide)
      have hJ : PgJ M w h notes vn bb bh bq M12 w15 bd q1 _ vb vq1 vp2 :=
        ⟨hJ.rn.st hst, hJ.bb.st hst (by decide), hJ.bh.st hst (by decide), hJ.bq.st hst (by decide), hJ.sb.mono hst.x, hJ.sq.mono hst.x, hJ.gq.st hst (by decide),
          hsp, hgp, hJ.sn.mono hst.x, hJ.hr⟩
      clear hst hsp hgp h87
      refine rt_one (i := 12) (by kernel_rfl) rfl (by decide) (op_assign rfl ?_)
      refine rt_nil (by kernel_rfl) ?_
      (repeat (first
          | refine run_seq ?_
          | refine run_region_l ?_
          | refine rl_nil ?_
          | refine rl_step (by decide) (op_move rfl ?_)
          | refine rl_step (by decide) (op_assign rfl ?_)
          | refine run_block ?_
          | refine run_inBlock ?_
          | refine run_exit rfl ?_
          | refine run_skip ?_
          | refine run_label ?_
          | refine run_true rfl ?_
          | refine run_false rfl ?_
          | refine rl_yes rfl rfl ?_
          | refine rl_no rfl rfl rfl (by decide) ?_
          | refine rl_step (by decide) (op_pick_t rfl rfl ?_)
          | refine rl_step (by decide) (op_pick_f rfl rfl ?_)
          | refine rl_step (by decide) (op_lss rfl rfl ?_)
          | refine rl_step (by decide) (op_leq rfl rfl ?_)
          | refine rl_step (by decide) (op_gtr rfl rfl ?_)
          | refine rl_step (by decide) (op_geq rfl rfl ?_)
          | refine rl_step (by decide) (op_eql rfl rfl ?_)
          | refine rl_step (by decide) (op_neq rfl rfl ?_)
          | refine rl_step (by decide) (op_not rfl ?_)
          | refine rl_step (by decide) (op_min rfl rfl ?_)
          | refine rl_step (by decide) (op_max rfl rfl ?_)
          | refine rl_step (by decide) (op_extract rfl rfl ?_)
          | refine rl_step (by decide) (op_add rfl rfl (by omega) ?_)
          | refine rl_step (by decide) (op_sub rfl rfl (by omega) ?_)
          | refine rl_step (by decide) (op_neg rfl (by omega) ?_)))
      refine region_dg (M := M12) (relW_ok w.heap.size) { tag := [none, none, none, none, none, none, some 3], pre := [[], [], [], [3], [3], [3], []], oth := [[3], [3], [3], [3], [3], [3], []] } 7 1 [] mixed rfl (by kernel_rfl) (fun w16 hs1 => ?_)
      replace hbl := hbl.up hs1
      replace hbs := hbs.up hs1
      replace hJ := hJ.up hs1
      clear hs1
      refine dg_cons (isv vb) (by decide) (fun _ _ _ _ _ _ h => h) (og0 rfl fun M w' hs2 => opg (op_load1 tdSL rfl (hJ.bb.stw hs2 (nin rfl)) rfl ⟨_, (relW_ok _).refl _ _, rfl⟩)) ?_
      refine dg_cons (isv (.int .i64 n)) (by decide) (fun _ _ _ _ _ _ h => h) (og0 rfl fun M w' hs2 => opg (op_load1 tdI rfl (hbl.stw hs2 (nin rfl)) rfl ⟨_, (relW_ok _).refl _ _, rfl⟩)) ?_
      refine dg_cons (isSl eLine (bd.drop n.toNat)) (by decide) (fun _ _ _ _ _ s h => h.mono s.x) (og2 rfl fun M w' hs2 v1 k1 v2 k2 => ?_) ?_
      · cases k1; cases k2
        exact opg (op_slice_l uL teL rfl rfl (hJ.sb.mono hs2.x) hn fun u hu => ⟨_, (relW_ok _).refl _ _, hu⟩)
      refine dg_cons (isv vq1) (by decide) (fun _ _ _ _ _ _ h => h) (og0 rfl fun M w' hs2 => opg (op_load1 tdSL rfl (hJ.bq.stw hs2 (nin rfl)) rfl ⟨_, (relW_ok _).mono (by simp) ((relW_ok _).refl _ _), rfl⟩)) ?_
      refine dg_cons (isv (.int .i64 s)) (by decide) (fun _ _ _ _ _ _ h => h) (og0 rfl fun M w' hs2 => opg (op_load1 tdI rfl (hbs.stw hs2 (nin rfl)) rfl ⟨_, (relW_ok _).mono (by simp) ((relW_ok _).refl _ _), rfl⟩)) ?_
      refine dg_cons (fun M w' v => SlOf eLine M w' v (q1.drop s.toNat) ∧ Grow w.heap.size M w' v (q1.drop s.toNat).length 4 4 47) (by decide) (fun _ _ _ _ _ s h => ⟨h.1.mono s.x, h.2.stw s (nin rfl)⟩) (og2 rfl fun M w' hs2 v1 k1 v2 k2 => ?_) ?_
      · cases k1; cases k2
        exact opg (op_slice_lG uL teL rfl rfl (hJ.sq.mono hs2.x) (hJ.gq.stw hs2 (nin rfl)) hs fun u hu hu2 => ⟨_, (relW_ok _).mono (by simp) ((relW_ok _).refl _ _), hu, hu2⟩)
      refine dg_cons0 (fun M w' => ∃ v, Box M w' bb 3 [v] 23 ∧ SlOf eLine M w' v (bd.drop n.toNat)) (fun _ _ _ _ _ s ⟨v, h1, h2⟩ => ⟨v, h1.stw s (nin rfl), h2.mono s.x⟩) (og1 rfl fun M w' hs2 v1 k1 => ?_) ?_
      · refine opg (op_store (c := [v1]) tdSL rfl rfl (by obtain ⟨_, _, q, _⟩ := SlOf.ex k1; rw [q]; rfl) (by obtain ⟨_, _, q, _⟩ := SlOf.ex k1; rw [q]; simp [Value.oneCell']) rfl (hJ.rn.stw hs2) hBb (hJ.bb.stw hs2 (nin rfl)) (by simp) fun w2 h1 h2 => ⟨_, StW.st h2, v1, h1, ?_⟩)
        exact SlOf.mono k1 h2.x
      refine dg_nil rfl (fun M13 w17 val hs2 hall2 => ?_)
      obtain ⟨⟨vb', hbb', hsb'⟩, ⟨hsq', hgq'⟩, _⟩ := hall2
      have e94 : SlOf eLine M13 w17 (val 94) (q1.drop s.toNat) := hsq'
      replace hgq' : Grow w.heap.size M13 w17 (val 94) (q1.drop s.toNat).length 4 4 47 := hgq'
      refine RT.sub (fr' := [(1, vn), (3, ptr bb), (5, ptr bh), (9, vp2), (10, ptr bq), (94, val 94)]) ?_ (by repeat (first | exact trivial | refine ⟨rfl, ?_⟩))
      generalize val 94 = vq' at e94 hgq'
      obtain ⟨aq, cq, qq, _⟩ := SlOf.ex e94
      refine rt_one0 (i := 7) (by kernel_rfl) rfl (op_store (c := [vq']) tdSL rfl rfl (by rw [qq]; rfl) (by rw [qq]; simp [Value.oneCell']) rfl (hJ.rn.stw hs2) hBq (hJ.bq.stw hs2 (nin rfl)) (by simp) ?_)
      intro w18 hbq hst
      replace hbq : Box M13 w18 bq 10 [vq'] 23 := hbq
      have hJ : PgJ M w h notes vn bb bh bq M13 w18 (bd.drop n.toNat) (q1.drop s.toNat) (ps ++ [⟨0, 0, 0, 0, bd.take n.toNat, q1.take s.toNat⟩]) vb' vq' vp2 :=
        ⟨(hJ.rn.stw hs2).st hst, hbb'.st hst (by decide), (hJ.bh.stw hs2 (nin rfl)).st hst (by decide), hbq, hsb'.mono hst.x, e94.mono hst.x, hgq'.st hst (by decide),
          (hJ.sp.mono hs2.x).mono hst.x, by simpa using (hJ.gp.stw hs2 (nin rfl)).st hst (by decide), (hJ.sn.mono hs2.x).mono hst.x, fun i hi => hJ.hr i (refs_sub hi)⟩
      refine rt_nil (by kernel_rfl) ?_
      clear hst hs2 hbq hsq' hgq' e94
      (repeat (first
          | refine run_seq ?_
          | refine run_region_l ?_
          | refine rl_nil ?_
          | refine rl_step (by decide) (op_move rfl ?_)
          | refine rl_step (by decide) (op_assign rfl ?_)
          | refine run_block ?_
          | refine run_inBlock ?_
          | refine run_exit rfl ?_
          | refine run_skip ?_
          | refine run_label ?_
          | refine run_true rfl ?_
          | refine run_false rfl ?_
          | refine rl_yes rfl rfl ?_
          | refine rl_no rfl rfl rfl (by decide) ?_
          | refine rl_step (by decide) (op_pick_t rfl rfl ?_)
          | refine rl_step (by decide) (op_pick_f rfl rfl ?_)
          | refine rl_step (by decide) (op_lss rfl rfl ?_)
          | refine rl_step (by decide) (op_leq rfl rfl ?_)
          | refine rl_step (by decide) (op_gtr rfl rfl ?_)
          | refine rl_step (by decide) (op_geq rfl rfl ?_)
          | refine rl_step (by decide) (op_eql rfl rfl ?_)
          | refine rl_step (by decide) (op_neq rfl rfl ?_)
          | refine rl_step (by decide) (op_not rfl ?_)
          | refine rl_step (by decide) (op_min rfl rfl ?_)
          | refine rl_step (by decide) (op_max rfl rfl ?_)
          | refine rl_step (by decide) (op_extract rfl rfl ?_)
          | refine rl_step (by decide) (op_add rfl rfl (by omega) ?_)
          | refine rl_step (by decide) (op_sub rfl rfl (by omega) ?_)
          | refine rl_step (by decide) (op_neg rfl (by omega) ?_)))
      have hd1 : (bd.drop n.toNat).length = bd.length - n.toNat := List.length_drop
      have hd2 : (q1.drop s.toNat).length = q1.length - s.toNat := List.length_drop
      refine (ih ⟨f', bd.drop n.toNat, q1.drop s.toNat, ps ++ [⟨0, 0, 0, 0, bd.take n.toNat, q1.take s.toNat⟩], vb', vq', vp2, M13⟩ _ ⟨hJ, ?_, ?_, hall⟩ ?_).sub (by repeat (first | exact trivial | refine ⟨rfl, ?_⟩))
      · simp only [List.length_append, List.length_cons, List.length_nil]
        omega
      · simp only
        omega
      · simp only
        omega

end Go.Proofs.Ytocoinkhbjlbhaa
