/-
  Merged by prune.py from the texts S5 S6 S7 S8 S9 S10 P27 S11 P27b S12 P27c S13 P27d P27e S14 T1 S15 T2 P27f.
-/
import Derived.Calls
import Derived.Orders
import Derived.Below
import Derived.KernelRfl
import Derived.WalkKit
import Derived.Laws.AppendOwn
import Derived.Laws.Rows
import Derived.Deep.Slices
import Derived.Laws.OwnMore
import Derived.Laws.MakeOwn
import Derived.Laws.CopyRow
import Derived.Still
import Derived.Lib.SliceRun
import Derived.Test.YtocoinkhbjlbhaaDoorChecked
import Derived.Lib.AppendZeros
import Derived.Scope
import Derived.Test.YtocoinkhbjlbhaaDoorPTx4
section
namespace Go.Proofs.YtocoinkhbjlbhaaDoor
open Go Go.RowKit
def SetR (h : Int) (body : List Line) (notes : List (List Line)) (M : Mut) (w : World) (v : Value) : Prop :=
  ∃ vp, v = .tuple #[vp, .int .i64 (chkM body notes h)] ∧ SlOf ePg M w vp (if chkM body notes h = 0 then setAll h body notes else [])
structure PgJ (M0 : Mut) (w0 : World) (h : Int) (notes : List (List Line)) (vn : Value) (bb bh bq : Nat) (M : Mut) (w : World) (body q : List Line) (ps : List Pg) (vb vq vp : Value) : Prop where
  rn : Rn M0 w0 M w
  bb : Box M w bb 3 [vb] 33
  bh : Box M w bh 5 [.int .i64 h] 3
  bq : Box M w bq 10 [vq] 33
  sb : SlOf eLine M w vb body
  sq : SlOf eLine M w vq q
  gq : Grow w0.heap.size M w vq q.length 4 4 42
  sp : SlOf ePg M w vp ps
  gp : Grow w0.heap.size M w vp ps.length 6 9 57
  sn : SlOf (eSl eLine) M w vn notes
  hr : ∀ i ∈ refs body, 0 ≤ i ∧ i < notes.length
theorem PgJ.up {M0 : Mut} {w0 : World} {h : Int} {notes : List (List Line)} {vn : Value} {bb bh bq : Nat} {M M' : Mut} {w w' : World} {body q : List Line} {ps : List Pg} {vb vq vp : Value}
    (k : PgJ M0 w0 h notes vn bb bh bq M w body q ps vb vq vp) (s : UpM M w M' w') : PgJ M0 w0 h notes vn bb bh bq M' w' body q ps vb vq vp :=
  ⟨k.rn.up s, k.bb.up s, k.bh.up s, k.bq.up s, k.sb.mono s.x, k.sq.mono s.x, k.gq.up s, k.sp.mono s.x, k.gp.up s, k.sn.mono s.x, k.hr⟩
theorem PgJ.st {M0 : Mut} {w0 : World} {h : Int} {notes : List (List Line)} {vn : Value} {bb bh bq tag : Nat} {M M' : Mut} {w w' : World} {body q : List Line} {ps : List Pg} {vb vq vp : Value}
    (k : PgJ M0 w0 h notes vn bb bh bq M w body q ps vb vq vp) (s : St w0.heap.size (some tag) M w M' w') (ht : tag ≠ 3 ∧ tag ≠ 5 ∧ tag ≠ 10 ∧ tag ≠ 4 ∧ tag ≠ 9) : PgJ M0 w0 h notes vn bb bh bq M' w' body q ps vb vq vp :=
  ⟨k.rn.st s, k.bb.st s (by simp; omega), k.bh.st s (by simp; omega), k.bq.st s (by simp; omega), k.sb.mono s.x, k.sq.mono s.x, k.gq.st s (by simp; omega), k.sp.mono s.x, k.gp.st s (by simp; omega), k.sn.mono s.x, k.hr⟩
theorem PgJ.vars {M0 : Mut} {w0 : World} {h : Int} {notes : List (List Line)} {vn : Value} {bb bh bq bl bs br : Nat} {M : Mut} {w : World} {body q : List Line} {ps : List Pg} {vb vq vp : Value} {n s : Int}
    (k : PgJ M0 w0 h notes vn bb bh bq M w body q ps vb vq vp) (hl : Box M w bl 11 [.int .i64 n] 3) (hs : Box M w bs 12 [.int .i64 s] 3) (hr : Box M w br 13 [.func (.func 43) #[] #[ptr bh, ptr bl, ptr bs]] 76) :
    Vars M w bb bh bq bl bs br vb vq h n s := ⟨k.bb, k.bh, k.bq, hl, hs, hr⟩
structure FS where
  n : Int
  s : Int
  q : List Line
  vq : Value
  M : Mut
structure LS where
  f : Nat
  body : List Line
  q : List Line
  ps : List Pg
  vb : Value
  vq : Value
  vp : Value
  M : Mut
set_option maxRecDepth 4000 in
set_option maxHeartbeats 1000000 in
theorem set_c (M : Mut) (vb vn : Value) (body : List Line) (notes : List (List Line)) (h : Int) (w : World) (hm : MB M w) (hb : SlOf eLine M w vb body) (hn : SlOf (eSl eLine) M w vn notes) (_hI : I64 h)
    (hsz : chkM body notes h = 0 → body.length ≤ 1000000 ∧ sumR notes body ≤ 1000000) :
    CallsV Tryd.prog 23 [vb, vn, .int .i64 h] w (fun u w' => SetR h body notes M w' u ∧ Below w.heap.size w w') := by
  have hr := Rn.refl hm
  obtain ⟨ab, cb, qb, _⟩ := hb.ex
  refine callsV_of_run Tryd.func23 rfl Tryd.ntmps23 (Nat.le_of_ble_eq_true rfl) ?_
  (repeat (first | refine run_seq ?_ | refine run_region_l ?_ | fail))
  refine rl_step (by decide) (op_box 3 hr (cs := [vb]) rfl (by rw [qb]; rfl) ?_)
  intro bb w1 M1 hBb hbb hs1
  replace hb := hb.mono hs1.x
  replace hn := hn.mono hs1.x
  replace hr := hr.up hs1
  refine rl_step (by decide) (op_box 5 hr (cs := [.int .i64 h]) rfl rfl ?_)
  intro bh w2 M2 hBh hbh hs2
  replace hb := hb.mono hs2.x
  replace hn := hn.mono hs2.x
  replace hr := hr.up hs2
  replace hbb := hbb.up hs2
  (repeat (first | refine run_seq ?_ | refine run_region_l ?_ | refine rl_nil ?_ | refine rl_step (by decide) (op_assign rfl ?_) | fail))
  refine rl_step (by decide) (op_load1 tdSL rfl hbb rfl ?_)
  (repeat (first | refine rl_step (by decide) (op_move rfl ?_) | fail))
  refine rl_step (by decide) (op_load1 tdI rfl hbh rfl ?_)
  refine rl_step (by decide) (op_call ent42 rfl (check_c M2 _ _ _ _ _ _ hr.mb hb hn) ?_)
  rintro e w3 ⟨rfl, hbel⟩
  have hs3 : UpM M2 w2 M2 w3 := UpM.of_below hbel
  replace hb := hb.mono hs3.x
  replace hn := hn.mono hs3.x
  replace hr := hr.up hs3
  replace hbb := hbb.up hs3
  replace hbh := hbh.up hs3
  (repeat (first | refine run_seq ?_ | refine run_region_l ?_ | refine rl_nil ?_ | refine rl_step (by decide) (op_move rfl ?_) | refine rl_step (by decide) (op_assign rfl ?_) | refine rl_step (by decide) (op_neq rfl rfl ?_) | fail))
  refine run_if rfl (fun hc => ?_) (fun hc => ?_)
  · (repeat (first | refine run_seq ?_ | refine run_region_l ?_ | refine rl_nil ?_ | refine rl_step (by decide) (op_move rfl ?_) | refine rl_step (by decide) (op_assign rfl ?_) | fail))
    refine run_ret2 Tryd.func23 rfl rfl rfl ?_
    exact ⟨⟨_, rfl, by rw [if_neg hc]; exact SlOf.nil _ _ _⟩, hr.bel⟩
  have hc : chkM body notes h = 0 := Classical.byContradiction hc
  replace hsz := hsz hc
  clear hs1 hs2 hs3 hbel
  (repeat (first | refine run_seq ?_ | refine run_region_l ?_ | refine rl_nil ?_ | refine rl_step (by decide) (op_assign rfl ?_) | refine run_skip ?_ | fail))
  refine rl_step (by decide) (op_alloc 10 hr tdSL ?_)
  intro bq w4 M4 hBq hbq hs4
  replace hb := hb.mono hs4.x
  replace hn := hn.mono hs4.x
  replace hr := hr.up hs4
  replace hbb := hbb.up hs4
  replace hbh := hbh.up hs4
  clear hs4
  obtain ⟨hh1, hh2, hh3, hord⟩ := chk_ok hc
  have hrefs := ordM_range _ _ _ _ hord (by omega)
  (repeat (first | refine run_seq ?_ | refine rl_nil ?_ | refine run_block ?_ | fail))
  refine (run_loop (α := LS) (fun x => [(1, vn), (3, ptr bb), (5, ptr bh), (9, x.vp), (10, ptr bq)])
    (fun x w' => PgJ M w h notes vn bb bh bq x.M w' x.body x.q x.ps x.vb x.vq x.vp ∧ x.ps.length + x.body.length + x.q.length + sumR notes x.body ≤ 2000000 ∧ x.body.length + x.q.length + sumR notes x.body < x.f ∧ setAll h body notes = x.ps ++ setM h notes x.f x.body x.q)
    (fun x => x.body.length + x.q.length + sumR notes x.body) ⟨body.length + sumR notes body + 1, body, [], [], vb, .slice none 0 0, .slice none 0 0, M4⟩
    ⟨⟨hr, hbb, hbh, hbq, hb, SlOf.nil _ _ _, Grow.nil, SlOf.nil _ _ _, Grow.nil, hn, hrefs⟩, by simp; omega, by simp, rfl⟩ ?_).sub (by repeat (first | exact trivial | refine ⟨rfl, ?_⟩))
  clear hr hbb hbh hbq hb hn hrefs qb
  rintro ⟨f, bd, q, ps, vb, vq, vp, M5⟩ w5 ⟨hJ, hsz2, hf, hall⟩ ih
  simp only at hJ hsz2 hf hall ih
  dsimp only
  have hlb := hJ.sb.le
  (repeat (first | refine run_seq ?_ | refine run_region_l ?_ | fail))
  refine rl_step (by decide) (op_load1 tdSL rfl hJ.bb rfl ?_)
  refine rl_step (by decide) (op_len uL rfl hJ.sb ?_)
  (repeat (first | refine rl_step (by decide) (op_move rfl ?_) | refine rl_step (by decide) (op_gtr rfl rfl ?_) | fail))
  have hcase : (0 : Int) < bd.length ∨ (bd.length = 0 ∧ (0 : Int) < q.length) ∨ (bd = [] ∧ q = []) := by
    rcases Nat.eq_zero_or_pos bd.length with h1 | h1
    · rcases Nat.eq_zero_or_pos q.length with h2 | h2
      · exact .inr (.inr ⟨List.eq_nil_of_length_eq_zero h1, List.eq_nil_of_length_eq_zero h2⟩)
      · exact .inr (.inl (by omega))
    · exact .inl (by omega)
  rcases hcase with hne | hne | ⟨rfl, rfl⟩
  case inr.inr =>
    refine rl_part 28 rfl (fun h => absurd h (by simp)) (fun _ => ?_)
    (repeat (first | refine rl_yes rfl rfl ?_ | fail))
    refine rl_step (by decide) (op_load1 tdSL rfl hJ.bq rfl ?_)
    (repeat (first | refine rl_yes rfl rfl ?_ | fail))
    refine rl_step (by decide) (op_len uL rfl hJ.sq ?_)
    (repeat (first | refine run_seq ?_ | refine run_region_l ?_ | refine rl_nil ?_ | refine rl_step (by decide) (op_move rfl ?_) | refine rl_step (by decide) (op_assign rfl ?_) | refine run_exit rfl ?_ | refine run_false rfl ?_ | refine rl_yes rfl rfl ?_ | refine rl_step (by decide) (op_pick_f rfl rfl ?_) | refine rl_step (by decide) (op_gtr rfl rfl ?_) | fail))
    refine run_ret2 Tryd.func23 rfl rfl rfl ?_
    have hnil : setM h notes f [] [] = [] := by cases f <;> rfl
    rw [hnil, List.append_nil] at hall
    exact ⟨⟨_, by rw [hc], by rw [if_pos hc, hall]; exact hJ.sp.mono hJ.rn.fin⟩, hJ.rn.bel⟩
  · refine rl_part 28 rfl (fun _ => ?_) (fun h => absurd hne h)
    (repeat (first | refine run_seq ?_ | refine rl_nil ?_ | refine run_block ?_ | refine run_skip ?_ | refine run_true rfl ?_ | refine rl_no rfl rfl rfl (by decide) ?_ | refine rl_step (by decide) (op_pick_t rfl rfl ?_) | fail))
    have hne' : 0 < bd.length + q.length := by omega
    clear hne
    refine Run.sub (fr' := [(1, vn), (3, ptr bb), (5, ptr bh), (9, vp), (10, ptr bq)]) ?_ (by repeat (first | exact trivial | refine ⟨rfl, ?_⟩))
    have hq0 := hJ.sq.le
    refine region_dr (M := M5) 8 1 [] mixed rfl (by kernel_rfl) (fun w1 hs1 => ?_)
    replace hJ := hJ.up hs1
    refine dr_cons (isv vq) (by decide) (mono_isv _) (ob0 rfl fun M w' hs => opg (op_load1 tdSL rfl (hJ.bq.up hs) rfl ⟨_, UpM.refl _ _, rfl⟩)) ?_
    refine dr_cons (isv (.int .i64 q.length)) (by decide) (mono_isv _) (ob1 rfl fun M w' hs v1 k1 => ?_) ?_
    · cases k1; exact opg (op_len uL rfl (hJ.sq.mono hs.x) ⟨_, UpM.refl _ _, rfl⟩)
    refine dr_cons (isv (.int .i64 h)) (by decide) (mono_isv _) (ob0 rfl fun M w' hs => opg (op_load1 tdI rfl (hJ.bh.up hs) rfl ⟨_, UpM.refl _ _, rfl⟩)) ?_
    refine dr_cons (isv (.int .i64 (h - 1))) (by decide) (mono_isv _) (ob1 rfl fun M w' hs v1 k1 => ?_) ?_
    · cases k1; exact opg (op_sub rfl rfl (by omega) ⟨_, UpM.refl _ _, rfl⟩)
    refine dr_cons (isv (.int .i64 (min q.length (h - 1)))) (by decide) (mono_isv _) (ob2 rfl fun M w' hs v1 k1 v2 k2 => ?_) ?_
    · cases k1; cases k2; exact opg (op_min rfl rfl ⟨_, UpM.refl _ _, rfl⟩)
    refine dr_cons (isBox w.heap.size 11 [.int .i64 0] 3) (by decide) (mono_isBox _ _ _ _) (ob0 rfl fun M w' hs => opg (op_alloc 11 (hJ.rn.up hs) tdI fun b w2 M2 h1 h2 h3 => ⟨_, h3, b, rfl, h1, h2⟩)) ?_
    refine dr_cons (isBox w.heap.size 12 [.int .i64 0] 3) (by decide) (mono_isBox _ _ _ _) (ob0 rfl fun M w' hs => opg (op_alloc 12 (hJ.rn.up hs) tdI fun b w2 M2 h1 h2 h3 => ⟨_, h3, b, rfl, h1, h2⟩)) ?_
    refine dr_cons0 (ob1 rfl fun M w' hs v1 k1 => ?_) ?_
    · obtain ⟨b, rfl, _, hb⟩ := k1
      exact opg (op_storeU (c := [.int .i64 0]) tdI rfl rfl rfl (by simp [Value.oneCell']) rfl hb (by simp) rfl fun w2 h3 => ⟨_, h3, trivial⟩)
    refine dr_nil rfl (fun M6 w6 val hs2 hall2 => ?_)
    obtain ⟨_, h12, h11, h37, _⟩ := hall2
    have e37 : val 37 = _ := h37
    replace hJ := hJ.up hs2
    obtain ⟨bs, e12, hBs, hbs⟩ := h12
    obtain ⟨bl, e11, hBl, hbl⟩ := h11
    refine RT.sub (fr' := [(1, vn), (3, ptr bb), (5, ptr bh), (9, vp), (10, ptr bq), (11, val 11), (12, val 12), (37, val 37)]) ?_ (by repeat (first | exact trivial | refine ⟨rfl, ?_⟩))
    rw [e11, e12, e37]
    refine rt_one0 (i := 8) (by kernel_rfl) rfl (op_store (c := [.int .i64 (min q.length (h - 1))]) tdI rfl rfl rfl (by simp [Value.oneCell']) rfl hJ.rn hBs hbs (by simp) ?_)
    intro w7 hbs hst
    replace hbl := hbl.st hst (by decide)
    replace hJ := hJ.st hst (by decide)
    refine rt_nil (by kernel_rfl) ?_
    replace hbs : Box M6 w7 bs 12 [.int .i64 (min q.length (h - 1))] 3 := hbs
    clear hst hs1 hs2 h37 e37 e11 e12
    (repeat (first | refine run_seq ?_ | refine run_region_l ?_ | fail))
    refine rl_step (by decide) (op_makeFunc (cap := [.tmp 5, .tmp 11, .tmp 12]) rfl ?_)
    refine rl_step (by decide) (op_alloc 13 hJ.rn tdF ?_)
    intro br w8 M8 hBr hbr hs1
    replace hbl := hbl.up hs1
    replace hbs := hbs.up hs1
    replace hJ := hJ.up hs1
    refine rl_step0 (op_store (c := [.func (.func 43) #[] #[ptr bh, ptr bl, ptr bs]]) tdF rfl rfl rfl (by simp [Value.oneCell']) rfl hJ.rn hBr hbr (by simp) ?_)
    intro w9 hbr hst
    replace hbl := hbl.st hst (by decide)
    replace hbs := hbs.st hst (by decide)
    replace hJ := hJ.st hst (by decide)
    replace hbr : Box M8 w9 br 13 [.func (.func 43) #[] #[ptr bh, ptr bl, ptr bs]] 76 := hbr
    clear hst hs1
    (repeat (first | refine run_seq ?_ | refine run_region_l ?_ | refine rl_nil ?_ | fail))
    refine rl_step (by decide) (op_makeFunc (cap := [.tmp 11, .tmp 3, .tmp 13, .tmp 12, .tmp 10]) rfl ?_)
    (repeat (first | refine run_seq ?_ | refine rl_nil ?_ | refine rl_step (by decide) (op_assign rfl ?_) | refine run_block ?_ | fail))
    refine (run_loop (α := FS) (fun x => [(1, vn), (3, ptr bb), (5, ptr bh), (9, vp), (10, ptr bq), (11, ptr bl), (12, ptr bs), (13, ptr br), (14, .func (.func 44) #[] #[ptr bl, ptr bb, ptr br, ptr bs, ptr bq])])
      (fun x w' => PgJ M w h notes vn bb bh bq x.M w' bd x.q ps vb x.vq vp ∧ Box x.M w' bl 11 [.int .i64 x.n] 3 ∧ Box x.M w' bs 12 [.int .i64 x.s] 3 ∧
        Box x.M w' br 13 [.func (.func 43) #[] #[ptr bh, ptr bl, ptr bs]] 76 ∧ (0 ≤ x.n ∧ x.n ≤ bd.length) ∧ (0 ≤ x.s ∧ x.s ≤ x.q.length) ∧ x.n + x.s + min x.s 1 ≤ h ∧ (x.s = 0 → x.q.length = 0) ∧
        x.q.length + sumR notes (bd.drop x.n.toNat) = q.length + sumR notes bd ∧ min (q.length : Int) (h - 1) ≤ x.s ∧ (x.n = 0 → x.s = min (q.length : Int) (h - 1) ∧ x.q = q) ∧
        fillM h notes (bd.drop x.n.toNat) x.n x.q x.s = fillM h notes bd 0 q (min q.length (h - 1)))
      (fun x => bd.length - x.n.toNat) ⟨0, min q.length (h - 1), q, vq, M8⟩
      ⟨hJ, hbl, hbs, hbr, ⟨by simp, by simp⟩, ⟨by simp only; omega, by simp only; omega⟩, by simp only; omega, by simp only; omega, by simp, by simp only; omega, fun _ => ⟨rfl, rfl⟩, by simp⟩ ?_).sub (by repeat (first | exact trivial | refine ⟨rfl, ?_⟩))
    clear hJ hbl hbs hbr
    rintro ⟨n, s, q1, vq1, M9⟩ w10 ⟨hJ, hbl, hbs, hbr, hn, hs, hfit, hs0, hsum, hmin, hn0, hfill⟩ ih2
    simp only at hJ hbl hbs hbr hn hs hfit hs0 hsum hmin hn0 hfill ih2
    try dsimp only
    (repeat (first | refine run_seq ?_ | refine run_region_l ?_ | refine rl_step (by decide) (op_move rfl ?_) | fail))
    refine rl_step (by decide) (op_callv (cap := [ptr bl, ptr bb, ptr br, ptr bs, ptr bq]) ent44 rfl rfl (fits_c _ _ bb bh bq bl bs br vb vq1 h n s bd q1 (hJ.vars hbl hbs hbr) hJ.sb hJ.sq (by omega) (by omega) (by omega) hn.2) ?_)
    rintro r w11 ⟨rfl, hbel⟩
    have hs1 : UpM M9 w10 M9 w11 := UpM.of_below hbel
    replace hbl := hbl.up hs1
    replace hbs := hbs.up hs1
    replace hbr := hbr.up hs1
    replace hJ := hJ.up hs1
    clear hs1 hbel
    (repeat (first | refine rl_nil ?_ | fail))
    refine run_ifb rfl (fun hb => ?_) (fun hb => ?_)
    · have hlt : n.toNat < bd.length := by
        rcases Nat.lt_or_ge n.toNat bd.length with h' | h'
        · exact h'
        · rw [List.getElem?_eq_none h'] at hb; cases hb
      rw [List.getElem?_eq_getElem hlt] at hb
      simp only at hb
      rw [List.drop_eq_getElem_cons hlt, fillM, if_pos hb] at hfill
      rw [sumR_drop notes bd _ hlt] at hsum
      have hfb := fits_bd hb hs.1 (fun e => by have := hs0 e; omega)
      have hmr : ∀ i ∈ bd[n.toNat].notes, 0 ≤ i ∧ i < notes.length := fun i hi => hJ.hr i (mem_refs hlt hi)
      (repeat (first | refine run_seq ?_ | refine run_region_l ?_ | refine run_block ?_ | refine run_skip ?_ | fail))
      refine rl_step (by decide) (op_load1 tdSL rfl hJ.bb rfl ?_)
      refine rl_step (by decide) (op_load1 tdI rfl hbl rfl ?_)
      refine rl_step (by decide) (op_indexAddr uL teL rfl rfl hJ.sb (by omega) ?_)
      intro ad _ he
      refine rl_step (by decide) (op_fieldAddr fdL3 rfl ?_)
      refine rl_step (by decide) (op_load teSI rfl he.line.2.2.2 ?_)
      intro vl hvl
      rw [eSl_V] at hvl
      refine rl_step (by decide) (op_len uI rfl hvl ?_)
      clear he
      generalize hL : bd[n.toNat].notes = L at hvl hfill hsum hfb hmr
      (repeat (first | refine rl_nil ?_ | refine rl_step (by decide) (op_move rfl ?_) | refine run_block ?_ | fail))
      have hnot : ∀ j, j ≤ L.length → q1.length + ((L.take j).flatMap (noteAt notes)).length ≤ 2000000 := fun j _ => by
        have := flat_take_le (noteAt notes) L j
        omega
      have hlL := hvl.le
      refine (run_loop (α := Nat × List Line × Value × Mut) (fun x => [(1, vn), (3, ptr bb), (5, ptr bh), (9, vp), (10, ptr bq), (11, ptr bl), (12, ptr bs), (13, ptr br), (14, .func (.func 44) #[] #[ptr bl, ptr bb, ptr br, ptr bs, ptr bq]), (46, vl), (47, .int .i64 L.length), (48, .int .i64 x.1)])
        (fun x w' => x.1 ≤ L.length ∧ PgJ M w h notes vn bb bh bq x.2.2.2 w' bd x.2.1 ps vb x.2.2.1 vp ∧ Box x.2.2.2 w' bl 11 [.int .i64 n] 3 ∧ Box x.2.2.2 w' bs 12 [.int .i64 s] 3 ∧
          Box x.2.2.2 w' br 13 [.func (.func 43) #[] #[ptr bh, ptr bl, ptr bs]] 76 ∧ SlOf eI x.2.2.2 w' vl L ∧ x.2.1 = q1 ++ (L.take x.1).flatMap (noteAt notes))
        (fun x => L.length - x.1) (0, q1, vq1, M9) ⟨Nat.zero_le _, hJ, hbl, hbs, hbr, hvl, by simp⟩ ?_).sub (by repeat (first | exact trivial | refine ⟨rfl, ?_⟩))
      clear hJ hbl hbs hbr hvl
      rintro ⟨j, q2, vq2, M10⟩ w12 ⟨hj, hJ, hbl, hbs, hbr, hvl, hq2⟩ ih3
      simp only at hj hJ hbl hbs hbr hvl hq2 ih3
      try dsimp only
      (repeat (first | refine run_seq ?_ | refine run_region_l ?_ | refine rl_nil ?_ | refine rl_step (by decide) (op_lss rfl rfl ?_) | fail))
      refine run_if rfl (fun hlt2 => ?_) (fun hlt2 => ?_)
      · have hj' : j < L.length := by omega
        have hmr' := hmr L[j] (List.getElem_mem hj')
        have hnl := hnot (j + 1) (by omega)
        rw [flat_take _ _ _ hj', List.length_append] at hnl
        (repeat (first | refine run_seq ?_ | refine run_region_l ?_ | refine run_block ?_ | refine run_skip ?_ | fail))
        refine rl_step (by decide) (op_indexAddr uI teI rfl rfl hvl (by omega) ?_)
        intro ad2 _ he2
        refine rl_step (by decide) (op_load teI rfl he2 ?_)
        intro u hu
        rw [eI_V] at hu
        obtain ⟨rfl, hu5⟩ := hu
        simp only [Int.toNat_natCast]
        (repeat (first | refine rl_nil ?_ | refine rl_step (by decide) (op_assign rfl ?_) | fail))
        refine region_dr (M := M10) 5 2 [] mixed rfl (by kernel_rfl) (fun w1 hs1 => ?_)
        replace hbl := hbl.up hs1
        replace hbs := hbs.up hs1
        replace hbr := hbr.up hs1
        replace hvl := hvl.mono hs1.x
        replace hJ := hJ.up hs1
        clear hs1 he2
        refine dr_cons (isv vq2) (by decide) (mono_isv _) (ob0 rfl fun M w' hs => opg (op_load1 tdSL rfl (hJ.bq.up hs) rfl ⟨_, UpM.refl _ _, rfl⟩)) ?_
        refine dr_cons (isv _) (by decide) (mono_isv _) (ob0 rfl fun M w hs => opg (op_move rfl ⟨_, UpM.refl _ _, rfl⟩)) ?_
        refine dr_cons (isv _) (by decide) (mono_isv _) (ob0 rfl fun M w hs => opg (op_move rfl ⟨_, UpM.refl _ _, rfl⟩)) ?_
        refine dr_cons (isPtr (eSl eLine) (noteAt notes L[j])) (by decide) (mono_isPtr _ _) (ob2 rfl fun M w' hs2 v1 h1 v2 h2 => ?_) ?_
        · cases h1; cases h2
          refine opg (op_indexAddr uLL teSL rfl rfl (hJ.sn.mono hs2.x) hmr' ?_)
          intro ad3 hn3 he3
          exact ⟨_, UpM.refl _ _, ad3, rfl, by rw [noteAt_get hn3]; exact he3⟩
        refine dr_cons (isSl eLine (noteAt notes L[j])) (by decide) (mono_isSl _ _) (ob1 rfl fun M w' hs2 v1 h1 => ?_) ?_
        · obtain ⟨ad3, rfl, he3⟩ := h1
          exact opg (op_load teSL rfl he3 fun u hu => ⟨_, UpM.refl _ _, eSl_V.1 hu⟩)
        refine dr_nil rfl (fun M11 w14 val hs2 hall2 => ?_)
        obtain ⟨h56, _, _, _, h52, _⟩ := hall2
        have e52 : val 52 = _ := h52
        replace hbl := hbl.up hs2
        replace hbs := hbs.up hs2
        replace hbr := hbr.up hs2
        replace hvl := hvl.mono hs2.x
        replace hJ := hJ.up hs2
        refine RT.sub (fr' := [(1, vn), (3, ptr bb), (5, ptr bh), (9, vp), (10, ptr bq), (11, ptr bl), (12, ptr bs), (13, ptr br), (14, .func (.func 44) #[] #[ptr bl, ptr bb, ptr br, ptr bs, ptr bq]), (46, vl), (47, .int .i64 L.length), (48, .int .i64 j), (52, val 52), (56, val 56)]) ?_ (by repeat (first | exact trivial | refine ⟨rfl, ?_⟩))
        rw [e52]
        generalize val 56 = v56 at h56
        clear hs2 h52 e52
        refine rt_one (i := 5) (by kernel_rfl) rfl (by decide) (op_append (E := eLine) (tag := 4) uL teL rfl rfl hJ.rn hJ.sq hJ.gq h56 (by rw [hq2, List.length_append]; show _ * 64 ≤ _; omega) ?_)
        intro vq3 w15 M12 hsq hgq hst
        obtain ⟨a3, c3, q3, _⟩ := hsq.ex
        refine rt_one0 (i := 6) (by kernel_rfl) rfl (op_store (c := [vq3]) tdSL rfl rfl (by rw [q3]; rfl) (by rw [q3]; simp [Value.oneCell']) rfl (hJ.rn.st hst) hBq (hJ.bq.st hst (by decide)) (by simp) ?_)
        intro w16 hbq hst2
        have hJ' : PgJ M w h notes vn bb bh bq M12 w16 bd (q2 ++ noteAt notes L[j]) ps vb vq3 vp :=
          ⟨(hJ.rn.st hst).st hst2, (hJ.bb.st hst (by decide)).st hst2 (by decide), (hJ.bh.st hst (by decide)).st hst2 (by decide), hbq, (hJ.sb.mono hst.x).mono hst2.x, hsq.mono hst2.x, hgq.st hst2 (by decide),
            (hJ.sp.mono hst.x).mono hst2.x, (hJ.gp.st hst (by decide)).st hst2 (by decide), (hJ.sn.mono hst.x).mono hst2.x, hJ.hr⟩
        replace hbl := (hbl.st hst (by decide)).st hst2 (by decide)
        replace hbs := (hbs.st hst (by decide)).st hst2 (by decide)
        replace hbr := (hbr.st hst (by decide)).st hst2 (by decide)
        replace hvl := (hvl.mono hst.x).mono hst2.x
        refine rt_nil (by kernel_rfl) ?_
        (repeat (first | refine run_region_l ?_ | refine rl_nil ?_ | refine rl_step (by decide) (op_move rfl ?_) | refine run_inBlock ?_ | refine rl_step (by decide) (op_add rfl rfl (by omega) ?_) | fail))
        exact (ih3 (j + 1, _, _, _) _ ⟨by show j + 1 ≤ _; omega, hJ', hbl, hbs, hbr, hvl, by show _ = _; rw [hq2, flat_take _ _ _ hj', List.append_assoc]⟩ (by show _ - (j + 1) < _ - j; omega)).sub (by repeat (first | exact trivial | refine ⟨rfl, ?_⟩))
      · have hjL : j = L.length := by omega
        subst hjL
        rw [List.take_length] at hq2
        have hq2l : q2.length = q1.length + (L.flatMap (noteAt notes)).length := by rw [hq2, List.length_append]
        have hgb := growM_bd h (n + 1) s q2.length hs.1 (by omega) hfb.1 (fun e1 e2 => by
          rcases hfb.2 with h3 | h3
          · have := hs0 e1
            rw [h3] at hq2l
            simp at hq2l
            omega
          · omega)
        rw [← hq2] at hfill
        (repeat (first | refine run_seq ?_ | refine run_region_l ?_ | refine run_exit rfl ?_ | fail))
        refine rl_step (by decide) (op_load1 tdI rfl hbl rfl ?_)
        (repeat (first | refine rl_step (by decide) (op_add rfl rfl (by omega) ?_) | fail))
        refine rl_step0 (op_store (c := [.int .i64 (n + 1)]) tdI rfl rfl rfl (by simp [Value.oneCell']) rfl hJ.rn hBl hbl (by simp) ?_)
        intro w13 hbl hst
        replace hbl : Box M10 w13 bl 11 [.int .i64 (n + 1)] 3 := hbl
        replace hbs := hbs.st hst (by decide)
        replace hbr := hbr.st hst (by decide)
        replace hJ := hJ.st hst (by decide)
        clear hst hvl
        (repeat (first | refine run_seq ?_ | refine run_region_l ?_ | refine rl_nil ?_ | fail))
        refine rl_step (by decide) (op_load1 tdSL rfl hJ.bq rfl ?_)
        refine rl_step (by decide) (op_len uL rfl hJ.sq ?_)
        refine rl_step (by decide) (op_load1 tdI rfl hbs rfl ?_)
        (repeat (first | refine run_seq ?_ | refine run_region_l ?_ | refine rl_nil ?_ | refine rl_step (by decide) (op_move rfl ?_) | refine rl_step (by decide) (op_assign rfl ?_) | refine rl_step (by decide) (op_gtr rfl rfl ?_) | refine rl_step (by decide) (op_sub rfl rfl (by omega) ?_) | fail))
        refine run_if rfl (fun hmore => ?_) (fun hmore => ?_)
        · (repeat (first | refine run_seq ?_ | fail))
          refine region_dr (M := M10) 10 1 [] mixed rfl (by kernel_rfl) (fun w1 hs1 => ?_)
          replace hbl := hbl.up hs1
          replace hbs := hbs.up hs1
          replace hbr := hbr.up hs1
          replace hJ := hJ.up hs1
          clear hs1
          refine dr_cons (isv (.int .i64 s)) (by decide) (mono_isv _) (ob0 rfl fun M w' hs2 => opg (op_load1 tdI rfl (hbs.up hs2) rfl ⟨_, UpM.refl _ _, rfl⟩)) ?_
          refine dr_cons (isv _) (by decide) (mono_isv _) (ob0 rfl fun M w hs => opg (op_move rfl ⟨_, UpM.refl _ _, rfl⟩)) ?_
          refine dr_cons (isv (.func (.func 43) #[] #[ptr bh, ptr bl, ptr bs])) (by decide) (mono_isv _) (ob0 rfl fun M w' hs2 => opg (op_load1 tdF rfl (hbr.up hs2) rfl ⟨_, UpM.refl _ _, rfl⟩)) ?_
          refine dr_cons (isv (.int .i64 (h - (n + 1) - s - min s 1))) (by decide) (mono_isv _) (ob1 rfl fun M w' hs2 v1 k1 => ?_) ?_
          · cases k1
            refine opg (op_callv (cap := [ptr bh, ptr bl, ptr bs]) ent43 rfl rfl (room_c M w' bh bl bs 5 11 12 h (n + 1) s (hJ.bh.up hs2) (hbl.up hs2) (hbs.up hs2) (by omega) (by omega) (by omega)) ?_)
            rintro r w1 ⟨rfl, rfl⟩
            exact ⟨_, UpM.refl _ _, rfl⟩
          refine dr_cons (isv (.int .i64 (h - (n + 1) - s - min s 1 - 1))) (by decide) (mono_isv _) (ob1 rfl fun M w' hs2 v1 k1 => ?_) ?_
          · cases k1; exact opg (op_sub rfl rfl (by omega) ⟨_, UpM.refl _ _, rfl⟩)
          refine dr_cons (isv (.int .i64 s)) (by decide) (mono_isv _) (ob0 rfl fun M w' hs2 => opg (op_load1 tdI rfl (hbs.up hs2) rfl ⟨_, UpM.refl _ _, rfl⟩)) ?_
          refine dr_cons (isv (.int .i64 (min s 1))) (by decide) (mono_isv _) (ob1 rfl fun M w' hs2 v1 k1 => ?_) ?_
          · cases k1; exact opg (op_min rfl rfl ⟨_, UpM.refl _ _, rfl⟩)
          refine dr_cons (isv (.int .i64 (h - (n + 1) - s - min s 1 - 1 + min s 1))) (by decide) (mono_isv _) (ob2 rfl fun M w' hs2 v1 k1 v2 k2 => ?_) ?_
          · cases k1; cases k2; exact opg (op_add rfl rfl (by omega) ⟨_, UpM.refl _ _, rfl⟩)
          refine dr_cons (isv (.int .i64 (min (q2.length - s) (h - (n + 1) - s - min s 1 - 1 + min s 1)))) (by decide) (mono_isv _) (ob2 rfl fun M w' hs2 v1 k1 v2 k2 => ?_) ?_
          · cases k1; cases k2; exact opg (op_min rfl rfl ⟨_, UpM.refl _ _, rfl⟩)
          refine dr_cons (isv (.int .i64 (s + min (q2.length - s) (h - (n + 1) - s - min s 1 - 1 + min s 1)))) (by decide) (mono_isv _) (ob2 rfl fun M w' hs2 v1 k1 v2 k2 => ?_) ?_
          · cases k1; cases k2; exact opg (op_add rfl rfl (by omega) ⟨_, UpM.refl _ _, rfl⟩)
          refine dr_nil rfl (fun M11 w14 val hs2 hall2 => ?_)
          obtain ⟨h76, _⟩ := hall2
          have e76 : val 76 = _ := h76
          replace hbl := hbl.up hs2
          replace hbs := hbs.up hs2
          replace hbr := hbr.up hs2
          replace hJ := hJ.up hs2
          have hg : growM h (n + 1) s q2.length = s + min (q2.length - s) (h - (n + 1) - s - min s 1 - 1 + min s 1) := if_pos hmore
          rw [← hg] at e76
          refine RT.sub (fr' := [(1, vn), (3, ptr bb), (5, ptr bh), (9, vp), (10, ptr bq), (11, ptr bl), (12, ptr bs), (13, ptr br), (14, .func (.func 44) #[] #[ptr bl, ptr bb, ptr br, ptr bs, ptr bq]), (76, val 76)]) ?_ (by repeat (first | exact trivial | refine ⟨rfl, ?_⟩))
          rw [e76]
          clear hs2 h76 e76 hg
          refine rt_one0 (i := 10) (by kernel_rfl) rfl (op_store (c := [.int .i64 (growM h (n + 1) s q2.length)]) tdI rfl rfl rfl (by simp [Value.oneCell']) rfl hJ.rn hBs hbs (by simp) ?_)
          intro w15 hbs hst
          replace hbs : Box M11 w15 bs 12 [.int .i64 (growM h (n + 1) s q2.length)] 3 := hbs
          replace hbl := hbl.st hst (by decide)
          replace hbr := hbr.st hst (by decide)
          replace hJ := hJ.st hst (by decide)
          refine rt_nil (by kernel_rfl) ?_
          (repeat (first | refine run_inBlock ?_ | fail))
          generalize growM h (n + 1) s q2.length = s' at hgb hfill hbs
          refine (ih2 ⟨n + 1, s', q2, vq2, M11⟩ _ ⟨hJ, hbl, hbs, hbr, ⟨by simp only; omega, by simp only; omega⟩, ⟨by simp only; omega, hgb.2.1⟩, hgb.2.2.1, by simp only; omega, ?_, by simp only; omega, by simp only; omega, ?_⟩ (by simp only; omega)).sub (by repeat (first | exact trivial | refine ⟨rfl, ?_⟩))
          · simp only
            rw [show (n + 1).toNat = n.toNat + 1 by omega]
            omega
          · simp only
            rw [show (n + 1).toNat = n.toNat + 1 by omega]
            exact hfill
        · (repeat (first | refine run_inBlock ?_ | refine run_skip ?_ | fail))
          have hg : growM h (n + 1) s q2.length = s := if_neg hmore
          rw [hg] at hgb hfill
          refine (ih2 ⟨n + 1, s, q2, vq2, M10⟩ _ ⟨hJ, hbl, hbs, hbr, ⟨by simp only; omega, by simp only; omega⟩, ⟨hs.1, hgb.2.1⟩, hgb.2.2.1, by simp only; omega, ?_, hmin, by simp only; omega, ?_⟩ (by simp only; omega)).sub (by repeat (first | exact trivial | refine ⟨rfl, ?_⟩))
          · simp only
            rw [show (n + 1).toNat = n.toNat + 1 by omega]
            omega
          · simp only
            rw [show (n + 1).toNat = n.toNat + 1 by omega]
            exact hfill
    · (repeat (first | refine run_seq ?_ | refine run_exit rfl ?_ | fail))
      have hprog : 0 < n + s := by
        rcases Int.lt_or_eq_of_le hn.1 with h' | h'
        · omega
        · obtain ⟨e1, e2⟩ := hn0 h'.symm
          rcases Nat.eq_zero_or_pos q.length with h2 | h2
          · have hlt : n.toNat < bd.length := by omega
            rw [List.getElem?_eq_getElem hlt] at hb
            simp only at hb
            have h3 : s = 0 := by omega
            generalize bd[n.toNat] = x at hb
            rw [← h', h3, e2, h2, show ((0 : Nat) : Int) = 0 from rfl] at hb
            rw [fits_first x hh1] at hb
            cases hb
          · omega
      have hfin : fillM h notes bd 0 q (min q.length (h - 1)) = (n, q1, s) := by
        rw [← hfill]
        rcases Nat.lt_or_ge n.toNat bd.length with h' | h'
        · rw [List.getElem?_eq_getElem h'] at hb
          simp only at hb
          rw [List.drop_eq_getElem_cons h', fillM, hb]
          rfl
        · rw [List.drop_eq_nil_of_le h', fillM]
      have hset : ∃ f', f = f' + 1 ∧ setM h notes f bd q = ⟨0, 0, 0, 0, bd.take n.toNat, q1.take s.toNat⟩ :: setM h notes f' (bd.drop n.toNat) (q1.drop s.toNat) := by
        refine ⟨f - 1, by omega, ?_⟩
        have hne : (bd.isEmpty && q.isEmpty) = false := by
          rw [Bool.and_eq_false_iff]
          rcases Nat.eq_zero_or_pos bd.length with h1 | h1
          · right
            cases q with
            | nil => simp at hne'; omega
            | cons => rfl
          · left
            cases bd with
            | nil => simp at h1
            | cons => rfl
        rw [show f = (f - 1) + 1 by omega, setM, hne, hfin]
        simp
      obtain ⟨f', rfl, hset⟩ := hset
      rw [hset, List.append_cons] at hall
      clear hb hfill hset hfin hn0
      refine region_dr (M := M9) 11 2 [] mixed rfl (by kernel_rfl) (fun w1 hs1 => ?_)
      replace hbl := hbl.up hs1
      replace hbs := hbs.up hs1
      replace hJ := hJ.up hs1
      clear hs1 hbr
      refine dr_cons (isv _) (by decide) (mono_isv _) (ob0 rfl fun M w hs => opg (op_move rfl ⟨_, UpM.refl _ _, rfl⟩)) ?_
      refine dr_cons (isv vb) (by decide) (mono_isv _) (ob0 rfl fun M w' hs2 => opg (op_load1 tdSL rfl (hJ.bb.up hs2) rfl ⟨_, UpM.refl _ _, rfl⟩)) ?_
      refine dr_cons (isv (.int .i64 n)) (by decide) (mono_isv _) (ob0 rfl fun M w' hs2 => opg (op_load1 tdI rfl (hbl.up hs2) rfl ⟨_, UpM.refl _ _, rfl⟩)) ?_
      refine dr_cons (isSl eLine (bd.take n.toNat)) (by decide) (mono_isSl _ _) (ob2 rfl fun M w' hs2 v1 k1 v2 k2 => ?_) ?_
      · cases k1; cases k2
        exact opg (op_slice_h uL teL rfl rfl (hJ.sb.mono hs2.x) hn fun u hu => ⟨_, UpM.refl _ _, hu⟩)
      refine dr_cons (isSl eLine (bd.take n.toNat)) (by decide) (mono_isSl _ _) (ob1 rfl fun M w' hs2 v1 k1 => ?_) ?_
      · exact opg (op_call ent45 rfl (clone_c M _ _ _ (hs2.mb hJ.rn.mb) k1) fun u w2 hu => ⟨_, UpM.of_below hu.1, hu.2⟩)
      refine dr_cons (isv vq1) (by decide) (mono_isv _) (ob0 rfl fun M w' hs2 => opg (op_load1 tdSL rfl (hJ.bq.up hs2) rfl ⟨_, UpM.refl _ _, rfl⟩)) ?_
      refine dr_cons (isv (.int .i64 s)) (by decide) (mono_isv _) (ob0 rfl fun M w' hs2 => opg (op_load1 tdI rfl (hbs.up hs2) rfl ⟨_, UpM.refl _ _, rfl⟩)) ?_
      refine dr_cons (isSl eLine (q1.take s.toNat)) (by decide) (mono_isSl _ _) (ob2 rfl fun M w' hs2 v1 k1 v2 k2 => ?_) ?_
      · cases k1; cases k2
        exact opg (op_slice_h uL teL rfl rfl (hJ.sq.mono hs2.x) hs fun u hu => ⟨_, UpM.refl _ _, hu⟩)
      refine dr_cons (isSl eLine (q1.take s.toNat)) (by decide) (mono_isSl _ _) (ob1 rfl fun M w' hs2 v1 k1 => ?_) ?_
      · exact opg (op_call ent45 rfl (clone_c M _ _ _ (hs2.mb hJ.rn.mb) k1) fun u w2 hu => ⟨_, UpM.of_below hu.1, hu.2⟩)
      refine dr_cons (isV ePg ⟨0, 0, 0, 0, bd.take n.toNat, q1.take s.toNat⟩) (by decide) (mono_isV _ _) (ob2 rfl fun M w' hs2 v1 k1 v2 k2 => ?_) ?_
      · obtain ⟨a1, c1, q1', _⟩ := SlOf.ex k1
        obtain ⟨a2, c2, q2', _⟩ := SlOf.ex k2
        refine opg (op_build (parts := [(3, .tmp 81), (4, .tmp 85)]) (vs := [v1, v2]) (pl := [(4, [v1]), (5, [v2])]) sbP rfl ⟨rfl, by rw [q1']; rfl, Nat.le_of_ble_eq_true rfl, rfl, by rw [q2']; rfl, Nat.le_of_ble_eq_true rfl, trivial⟩ ⟨_, UpM.refl _ _, ?_⟩)
        exact ePg_V.2 ⟨v1, v2, rfl, ⟨by unfold I64; simp, by unfold I64; simp, by unfold I64; simp, by unfold I64; simp⟩, k1, k2⟩
      refine dr_cons (isSl ePg [⟨0, 0, 0, 0, bd.take n.toNat, q1.take s.toNat⟩]) (by decide) (mono_isSl _ _) (ob1 rfl fun M w' hs2 v1 k1 => ?_) ?_
      · exact opg (op_buildSlice (E := ePg) (n := 1) (parts := [(0, .tmp 86)]) (vs := [v1]) (l := [⟨0, 0, 0, 0, bd.take n.toNat, q1.take s.toNat⟩]) uP teP (hJ.rn.up hs2) rfl rfl ⟨k1, trivial⟩ rfl ⟨by simp [ePg, Enc.via, Enc.app, eSl, eN], by simp [ePg, Enc.via]⟩ fun u w2 hu _ hbel => ⟨_, UpM.of_below hbel, hu⟩)
      refine dr_nil rfl (fun M11 w14 val hs2 hall2 => ?_)
      obtain ⟨h87, _, _, _, _, _, _, _, _, _, h77, _⟩ := hall2
      have e77 : val 77 = _ := h77
      replace hbl := hbl.up hs2
      replace hbs := hbs.up hs2
      replace hJ := hJ.up hs2
      refine RT.sub (fr' := [(1, vn), (3, ptr bb), (5, ptr bh), (10, ptr bq), (11, ptr bl), (12, ptr bs), (77, val 77), (87, val 87)]) ?_ (by repeat (first | exact trivial | refine ⟨rfl, ?_⟩))
      rw [e77]
      generalize val 87 = v87 at h87
      clear hs2 h77 e77
      refine rt_one (i := 11) (by kernel_rfl) rfl (by decide) (op_append (E := ePg) (tag := 9) uP teP rfl rfl hJ.rn hJ.sp hJ.gp h87 (by show (ps.length + 1) * 80 ≤ _; omega) ?_)
      intro vp2 w15 M12 hsp hgp hst
      replace hbl := hbl.st hst (by decide)
      replace hbs := hbs.st hst (by decide)
      have hJ : PgJ M w h notes vn bb bh bq M12 w15 bd q1 _ vb vq1 vp2 :=
        ⟨hJ.rn.st hst, hJ.bb.st hst (by decide), hJ.bh.st hst (by decide), hJ.bq.st hst (by decide), hJ.sb.mono hst.x, hJ.sq.mono hst.x, hJ.gq.st hst (by decide),
          hsp, hgp, hJ.sn.mono hst.x, hJ.hr⟩
      clear hst hsp hgp h87
      refine rt_one (i := 12) (by kernel_rfl) rfl (by decide) (op_assign rfl ?_)
      refine rt_nil (by kernel_rfl) ?_
      (repeat (first | refine run_seq ?_ | fail))
      refine region_dg (M := M12) (relW_ok w.heap.size) { tag := [none, none, none, none, none, none, some 3], pre := [[], [], [], [3], [3], [3], []], oth := [[3], [3], [3], [3], [3], [3], []] } 7 1 [] mixed rfl (by kernel_rfl) (fun w16 hs1 => ?_)
      replace hbl := hbl.up hs1
      replace hbs := hbs.up hs1
      replace hJ := hJ.up hs1
      clear hs1
      refine dg_cons (isv vb) (by decide) (fun _ _ _ _ _ _ h => h) (og0 rfl fun M w' hs2 => opg (op_load1 tdSL rfl (hJ.bb.stw hs2 (nin rfl)) rfl ⟨_, (relW_ok _).refl _ _, rfl⟩)) ?_
      refine dg_cons (isv (.int .i64 n)) (by decide) (fun _ _ _ _ _ _ h => h) (og0 rfl fun M w' hs2 => opg (op_load1 tdI rfl (hbl.stw hs2 (nin rfl)) rfl ⟨_, (relW_ok _).refl _ _, rfl⟩)) ?_
      refine dg_cons (isSl eLine (bd.drop n.toNat)) (by decide) (fun _ _ _ _ _ s h => h.mono s.x) (og2 rfl fun M w' hs2 v1 k1 v2 k2 => ?_) ?_
      · cases k1; cases k2
        exact opg (op_slice_l uL teL rfl rfl (hJ.sb.mono hs2.x) hn fun u hu => ⟨_, (relW_ok _).refl _ _, hu⟩)
      refine dg_cons (isv vq1) (by decide) (fun _ _ _ _ _ _ h => h) (og0 rfl fun M w' hs2 => opg (op_load1 tdSL rfl (hJ.bq.stw hs2 (nin rfl)) rfl ⟨_, (relW_ok _).mono (by simp) ((relW_ok _).refl _ _), rfl⟩)) ?_
      refine dg_cons (isv (.int .i64 s)) (by decide) (fun _ _ _ _ _ _ h => h) (og0 rfl fun M w' hs2 => opg (op_load1 tdI rfl (hbs.stw hs2 (nin rfl)) rfl ⟨_, (relW_ok _).mono (by simp) ((relW_ok _).refl _ _), rfl⟩)) ?_
      refine dg_cons (fun M w' v => SlOf eLine M w' v (q1.drop s.toNat) ∧ Grow w.heap.size M w' v (q1.drop s.toNat).length 4 4 42) (by decide) (fun _ _ _ _ _ s h => ⟨h.1.mono s.x, h.2.stw s (nin rfl)⟩) (og2 rfl fun M w' hs2 v1 k1 v2 k2 => ?_) ?_
      · cases k1; cases k2
        exact opg (op_slice_lG uL teL rfl rfl (hJ.sq.mono hs2.x) (hJ.gq.stw hs2 (nin rfl)) hs fun u hu hu2 => ⟨_, (relW_ok _).mono (by simp) ((relW_ok _).refl _ _), hu, hu2⟩)
      refine dg_cons0 (fun M w' => ∃ v, Box M w' bb 3 [v] 33 ∧ SlOf eLine M w' v (bd.drop n.toNat)) (fun _ _ _ _ _ s ⟨v, h1, h2⟩ => ⟨v, h1.stw s (nin rfl), h2.mono s.x⟩) (og1 rfl fun M w' hs2 v1 k1 => ?_) ?_
      · refine opg (op_store (c := [v1]) tdSL rfl rfl (by obtain ⟨_, _, q, _⟩ := SlOf.ex k1; rw [q]; rfl) (by obtain ⟨_, _, q, _⟩ := SlOf.ex k1; rw [q]; simp [Value.oneCell']) rfl (hJ.rn.stw hs2) hBb (hJ.bb.stw hs2 (nin rfl)) (by simp) fun w2 h1 h2 => ⟨_, StW.st h2, v1, h1, ?_⟩)
        exact SlOf.mono k1 h2.x
      refine dg_nil rfl (fun M13 w17 val hs2 hall2 => ?_)
      obtain ⟨⟨vb', hbb', hsb'⟩, ⟨hsq', hgq'⟩, _⟩ := hall2
      have e94 : SlOf eLine M13 w17 (val 94) (q1.drop s.toNat) := hsq'
      replace hgq' : Grow w.heap.size M13 w17 (val 94) (q1.drop s.toNat).length 4 4 42 := hgq'
      refine RT.sub (fr' := [(1, vn), (3, ptr bb), (5, ptr bh), (9, vp2), (10, ptr bq), (94, val 94)]) ?_ (by repeat (first | exact trivial | refine ⟨rfl, ?_⟩))
      generalize val 94 = vq' at e94 hgq'
      obtain ⟨aq, cq, qq, _⟩ := SlOf.ex e94
      refine rt_one0 (i := 7) (by kernel_rfl) rfl (op_store (c := [vq']) tdSL rfl rfl (by rw [qq]; rfl) (by rw [qq]; simp [Value.oneCell']) rfl (hJ.rn.stw hs2) hBq (hJ.bq.stw hs2 (nin rfl)) (by simp) ?_)
      intro w18 hbq hst
      replace hbq : Box M13 w18 bq 10 [vq'] 33 := hbq
      have hJ : PgJ M w h notes vn bb bh bq M13 w18 (bd.drop n.toNat) (q1.drop s.toNat) (ps ++ [⟨0, 0, 0, 0, bd.take n.toNat, q1.take s.toNat⟩]) vb' vq' vp2 :=
        ⟨(hJ.rn.stw hs2).st hst, hbb'.st hst (by decide), (hJ.bh.stw hs2 (nin rfl)).st hst (by decide), hbq, hsb'.mono hst.x, e94.mono hst.x, hgq'.st hst (by decide),
          (hJ.sp.mono hs2.x).mono hst.x, by simpa using (hJ.gp.stw hs2 (nin rfl)).st hst (by decide), (hJ.sn.mono hs2.x).mono hst.x, fun i hi => hJ.hr i (refs_sub hi)⟩
      refine rt_nil (by kernel_rfl) ?_
      clear hst hs2 hbq hsq' hgq' e94
      (repeat (first | refine run_inBlock ?_ | fail))
      have hd1 : (bd.drop n.toNat).length = bd.length - n.toNat := List.length_drop
      have hd2 : (q1.drop s.toNat).length = q1.length - s.toNat := List.length_drop
      refine (ih ⟨f', bd.drop n.toNat, q1.drop s.toNat, ps ++ [⟨0, 0, 0, 0, bd.take n.toNat, q1.take s.toNat⟩], vb', vq', vp2, M13⟩ _ ⟨hJ, ?_, ?_, hall⟩ ?_).sub (by repeat (first | exact trivial | refine ⟨rfl, ?_⟩))
      · simp only [List.length_append, List.length_cons, List.length_nil]
        omega
      · simp only
        omega
      · simp only
        omega
  · refine rl_part 28 rfl (fun h => absurd h (by omega)) (fun _ => ?_)
    (repeat (first | refine rl_yes rfl rfl ?_ | fail))
    refine rl_step (by decide) (op_load1 tdSL rfl hJ.bq rfl ?_)
    (repeat (first | refine rl_yes rfl rfl ?_ | fail))
    refine rl_step (by decide) (op_len uL rfl hJ.sq ?_)
    (repeat (first | refine rl_nil ?_ | refine rl_yes rfl rfl ?_ | refine rl_step (by decide) (op_pick_f rfl rfl ?_) | refine rl_step (by decide) (op_gtr rfl rfl ?_) | fail))
    refine run_yes rfl hne.2 ?_
    (repeat (first | refine run_seq ?_ | refine run_block ?_ | refine run_skip ?_ | fail))
    have hne' : 0 < bd.length + q.length := by omega
    clear hne
    refine Run.sub (fr' := [(1, vn), (3, ptr bb), (5, ptr bh), (9, vp), (10, ptr bq)]) ?_ (by repeat (first | exact trivial | refine ⟨rfl, ?_⟩))
    have hq0 := hJ.sq.le
    refine region_dr (M := M5) 8 1 [] mixed rfl (by kernel_rfl) (fun w1 hs1 => ?_)
    replace hJ := hJ.up hs1
    refine dr_cons (isv vq) (by decide) (mono_isv _) (ob0 rfl fun M w' hs => opg (op_load1 tdSL rfl (hJ.bq.up hs) rfl ⟨_, UpM.refl _ _, rfl⟩)) ?_
    refine dr_cons (isv (.int .i64 q.length)) (by decide) (mono_isv _) (ob1 rfl fun M w' hs v1 k1 => ?_) ?_
    · cases k1; exact opg (op_len uL rfl (hJ.sq.mono hs.x) ⟨_, UpM.refl _ _, rfl⟩)
    refine dr_cons (isv (.int .i64 h)) (by decide) (mono_isv _) (ob0 rfl fun M w' hs => opg (op_load1 tdI rfl (hJ.bh.up hs) rfl ⟨_, UpM.refl _ _, rfl⟩)) ?_
    refine dr_cons (isv (.int .i64 (h - 1))) (by decide) (mono_isv _) (ob1 rfl fun M w' hs v1 k1 => ?_) ?_
    · cases k1; exact opg (op_sub rfl rfl (by omega) ⟨_, UpM.refl _ _, rfl⟩)
    refine dr_cons (isv (.int .i64 (min q.length (h - 1)))) (by decide) (mono_isv _) (ob2 rfl fun M w' hs v1 k1 v2 k2 => ?_) ?_
    · cases k1; cases k2; exact opg (op_min rfl rfl ⟨_, UpM.refl _ _, rfl⟩)
    refine dr_cons (isBox w.heap.size 11 [.int .i64 0] 3) (by decide) (mono_isBox _ _ _ _) (ob0 rfl fun M w' hs => opg (op_alloc 11 (hJ.rn.up hs) tdI fun b w2 M2 h1 h2 h3 => ⟨_, h3, b, rfl, h1, h2⟩)) ?_
    refine dr_cons (isBox w.heap.size 12 [.int .i64 0] 3) (by decide) (mono_isBox _ _ _ _) (ob0 rfl fun M w' hs => opg (op_alloc 12 (hJ.rn.up hs) tdI fun b w2 M2 h1 h2 h3 => ⟨_, h3, b, rfl, h1, h2⟩)) ?_
    refine dr_cons0 (ob1 rfl fun M w' hs v1 k1 => ?_) ?_
    · obtain ⟨b, rfl, _, hb⟩ := k1
      exact opg (op_storeU (c := [.int .i64 0]) tdI rfl rfl rfl (by simp [Value.oneCell']) rfl hb (by simp) rfl fun w2 h3 => ⟨_, h3, trivial⟩)
    refine dr_nil rfl (fun M6 w6 val hs2 hall2 => ?_)
    obtain ⟨_, h12, h11, h37, _⟩ := hall2
    have e37 : val 37 = _ := h37
    replace hJ := hJ.up hs2
    obtain ⟨bs, e12, hBs, hbs⟩ := h12
    obtain ⟨bl, e11, hBl, hbl⟩ := h11
    refine RT.sub (fr' := [(1, vn), (3, ptr bb), (5, ptr bh), (9, vp), (10, ptr bq), (11, val 11), (12, val 12), (37, val 37)]) ?_ (by repeat (first | exact trivial | refine ⟨rfl, ?_⟩))
    rw [e11, e12, e37]
    refine rt_one0 (i := 8) (by kernel_rfl) rfl (op_store (c := [.int .i64 (min q.length (h - 1))]) tdI rfl rfl rfl (by simp [Value.oneCell']) rfl hJ.rn hBs hbs (by simp) ?_)
    intro w7 hbs hst
    replace hbl := hbl.st hst (by decide)
    replace hJ := hJ.st hst (by decide)
    refine rt_nil (by kernel_rfl) ?_
    replace hbs : Box M6 w7 bs 12 [.int .i64 (min q.length (h - 1))] 3 := hbs
    clear hst hs1 hs2 h37 e37 e11 e12
    (repeat (first | refine run_seq ?_ | refine run_region_l ?_ | fail))
    refine rl_step (by decide) (op_makeFunc (cap := [.tmp 5, .tmp 11, .tmp 12]) rfl ?_)
    refine rl_step (by decide) (op_alloc 13 hJ.rn tdF ?_)
    intro br w8 M8 hBr hbr hs1
    replace hbl := hbl.up hs1
    replace hbs := hbs.up hs1
    replace hJ := hJ.up hs1
    refine rl_step0 (op_store (c := [.func (.func 43) #[] #[ptr bh, ptr bl, ptr bs]]) tdF rfl rfl rfl (by simp [Value.oneCell']) rfl hJ.rn hBr hbr (by simp) ?_)
    intro w9 hbr hst
    replace hbl := hbl.st hst (by decide)
    replace hbs := hbs.st hst (by decide)
    replace hJ := hJ.st hst (by decide)
    replace hbr : Box M8 w9 br 13 [.func (.func 43) #[] #[ptr bh, ptr bl, ptr bs]] 76 := hbr
    clear hst hs1
    (repeat (first | refine run_seq ?_ | refine run_region_l ?_ | refine rl_nil ?_ | fail))
    refine rl_step (by decide) (op_makeFunc (cap := [.tmp 11, .tmp 3, .tmp 13, .tmp 12, .tmp 10]) rfl ?_)
    (repeat (first | refine run_seq ?_ | refine rl_nil ?_ | refine rl_step (by decide) (op_assign rfl ?_) | refine run_block ?_ | fail))
    refine (run_loop (α := FS) (fun x => [(1, vn), (3, ptr bb), (5, ptr bh), (9, vp), (10, ptr bq), (11, ptr bl), (12, ptr bs), (13, ptr br), (14, .func (.func 44) #[] #[ptr bl, ptr bb, ptr br, ptr bs, ptr bq])])
      (fun x w' => PgJ M w h notes vn bb bh bq x.M w' bd x.q ps vb x.vq vp ∧ Box x.M w' bl 11 [.int .i64 x.n] 3 ∧ Box x.M w' bs 12 [.int .i64 x.s] 3 ∧
        Box x.M w' br 13 [.func (.func 43) #[] #[ptr bh, ptr bl, ptr bs]] 76 ∧ (0 ≤ x.n ∧ x.n ≤ bd.length) ∧ (0 ≤ x.s ∧ x.s ≤ x.q.length) ∧ x.n + x.s + min x.s 1 ≤ h ∧ (x.s = 0 → x.q.length = 0) ∧
        x.q.length + sumR notes (bd.drop x.n.toNat) = q.length + sumR notes bd ∧ min (q.length : Int) (h - 1) ≤ x.s ∧ (x.n = 0 → x.s = min (q.length : Int) (h - 1) ∧ x.q = q) ∧
        fillM h notes (bd.drop x.n.toNat) x.n x.q x.s = fillM h notes bd 0 q (min q.length (h - 1)))
      (fun x => bd.length - x.n.toNat) ⟨0, min q.length (h - 1), q, vq, M8⟩
      ⟨hJ, hbl, hbs, hbr, ⟨by simp, by simp⟩, ⟨by simp only; omega, by simp only; omega⟩, by simp only; omega, by simp only; omega, by simp, by simp only; omega, fun _ => ⟨rfl, rfl⟩, by simp⟩ ?_).sub (by repeat (first | exact trivial | refine ⟨rfl, ?_⟩))
    clear hJ hbl hbs hbr
    rintro ⟨n, s, q1, vq1, M9⟩ w10 ⟨hJ, hbl, hbs, hbr, hn, hs, hfit, hs0, hsum, hmin, hn0, hfill⟩ ih2
    simp only at hJ hbl hbs hbr hn hs hfit hs0 hsum hmin hn0 hfill ih2
    try dsimp only
    (repeat (first | refine run_seq ?_ | refine run_region_l ?_ | refine rl_step (by decide) (op_move rfl ?_) | fail))
    refine rl_step (by decide) (op_callv (cap := [ptr bl, ptr bb, ptr br, ptr bs, ptr bq]) ent44 rfl rfl (fits_c _ _ bb bh bq bl bs br vb vq1 h n s bd q1 (hJ.vars hbl hbs hbr) hJ.sb hJ.sq (by omega) (by omega) (by omega) hn.2) ?_)
    rintro r w11 ⟨rfl, hbel⟩
    have hs1 : UpM M9 w10 M9 w11 := UpM.of_below hbel
    replace hbl := hbl.up hs1
    replace hbs := hbs.up hs1
    replace hbr := hbr.up hs1
    replace hJ := hJ.up hs1
    clear hs1 hbel
    (repeat (first | refine rl_nil ?_ | fail))
    refine run_ifb rfl (fun hb => ?_) (fun hb => ?_)
    · have hlt : n.toNat < bd.length := by
        rcases Nat.lt_or_ge n.toNat bd.length with h' | h'
        · exact h'
        · rw [List.getElem?_eq_none h'] at hb; cases hb
      rw [List.getElem?_eq_getElem hlt] at hb
      simp only at hb
      rw [List.drop_eq_getElem_cons hlt, fillM, if_pos hb] at hfill
      rw [sumR_drop notes bd _ hlt] at hsum
      have hfb := fits_bd hb hs.1 (fun e => by have := hs0 e; omega)
      have hmr : ∀ i ∈ bd[n.toNat].notes, 0 ≤ i ∧ i < notes.length := fun i hi => hJ.hr i (mem_refs hlt hi)
      (repeat (first | refine run_seq ?_ | refine run_region_l ?_ | refine run_block ?_ | refine run_skip ?_ | fail))
      refine rl_step (by decide) (op_load1 tdSL rfl hJ.bb rfl ?_)
      refine rl_step (by decide) (op_load1 tdI rfl hbl rfl ?_)
      refine rl_step (by decide) (op_indexAddr uL teL rfl rfl hJ.sb (by omega) ?_)
      intro ad _ he
      refine rl_step (by decide) (op_fieldAddr fdL3 rfl ?_)
      refine rl_step (by decide) (op_load teSI rfl he.line.2.2.2 ?_)
      intro vl hvl
      rw [eSl_V] at hvl
      refine rl_step (by decide) (op_len uI rfl hvl ?_)
      clear he
      generalize hL : bd[n.toNat].notes = L at hvl hfill hsum hfb hmr
      (repeat (first | refine rl_nil ?_ | refine rl_step (by decide) (op_move rfl ?_) | refine run_block ?_ | fail))
      have hnot : ∀ j, j ≤ L.length → q1.length + ((L.take j).flatMap (noteAt notes)).length ≤ 2000000 := fun j _ => by
        have := flat_take_le (noteAt notes) L j
        omega
      have hlL := hvl.le
      refine (run_loop (α := Nat × List Line × Value × Mut) (fun x => [(1, vn), (3, ptr bb), (5, ptr bh), (9, vp), (10, ptr bq), (11, ptr bl), (12, ptr bs), (13, ptr br), (14, .func (.func 44) #[] #[ptr bl, ptr bb, ptr br, ptr bs, ptr bq]), (46, vl), (47, .int .i64 L.length), (48, .int .i64 x.1)])
        (fun x w' => x.1 ≤ L.length ∧ PgJ M w h notes vn bb bh bq x.2.2.2 w' bd x.2.1 ps vb x.2.2.1 vp ∧ Box x.2.2.2 w' bl 11 [.int .i64 n] 3 ∧ Box x.2.2.2 w' bs 12 [.int .i64 s] 3 ∧
          Box x.2.2.2 w' br 13 [.func (.func 43) #[] #[ptr bh, ptr bl, ptr bs]] 76 ∧ SlOf eI x.2.2.2 w' vl L ∧ x.2.1 = q1 ++ (L.take x.1).flatMap (noteAt notes))
        (fun x => L.length - x.1) (0, q1, vq1, M9) ⟨Nat.zero_le _, hJ, hbl, hbs, hbr, hvl, by simp⟩ ?_).sub (by repeat (first | exact trivial | refine ⟨rfl, ?_⟩))
      clear hJ hbl hbs hbr hvl
      rintro ⟨j, q2, vq2, M10⟩ w12 ⟨hj, hJ, hbl, hbs, hbr, hvl, hq2⟩ ih3
      simp only at hj hJ hbl hbs hbr hvl hq2 ih3
      try dsimp only
      (repeat (first | refine run_seq ?_ | refine run_region_l ?_ | refine rl_nil ?_ | refine rl_step (by decide) (op_lss rfl rfl ?_) | fail))
      refine run_if rfl (fun hlt2 => ?_) (fun hlt2 => ?_)
      · have hj' : j < L.length := by omega
        have hmr' := hmr L[j] (List.getElem_mem hj')
        have hnl := hnot (j + 1) (by omega)
        rw [flat_take _ _ _ hj', List.length_append] at hnl
        (repeat (first | refine run_seq ?_ | refine run_region_l ?_ | refine run_block ?_ | refine run_skip ?_ | fail))
        refine rl_step (by decide) (op_indexAddr uI teI rfl rfl hvl (by omega) ?_)
        intro ad2 _ he2
        refine rl_step (by decide) (op_load teI rfl he2 ?_)
        intro u hu
        rw [eI_V] at hu
        obtain ⟨rfl, hu5⟩ := hu
        simp only [Int.toNat_natCast]
        (repeat (first | refine rl_nil ?_ | refine rl_step (by decide) (op_assign rfl ?_) | fail))
        refine region_dr (M := M10) 5 2 [] mixed rfl (by kernel_rfl) (fun w1 hs1 => ?_)
        replace hbl := hbl.up hs1
        replace hbs := hbs.up hs1
        replace hbr := hbr.up hs1
        replace hvl := hvl.mono hs1.x
        replace hJ := hJ.up hs1
        clear hs1 he2
        refine dr_cons (isv vq2) (by decide) (mono_isv _) (ob0 rfl fun M w' hs => opg (op_load1 tdSL rfl (hJ.bq.up hs) rfl ⟨_, UpM.refl _ _, rfl⟩)) ?_
        refine dr_cons (isv _) (by decide) (mono_isv _) (ob0 rfl fun M w hs => opg (op_move rfl ⟨_, UpM.refl _ _, rfl⟩)) ?_
        refine dr_cons (isv _) (by decide) (mono_isv _) (ob0 rfl fun M w hs => opg (op_move rfl ⟨_, UpM.refl _ _, rfl⟩)) ?_
        refine dr_cons (isPtr (eSl eLine) (noteAt notes L[j])) (by decide) (mono_isPtr _ _) (ob2 rfl fun M w' hs2 v1 h1 v2 h2 => ?_) ?_
        · cases h1; cases h2
          refine opg (op_indexAddr uLL teSL rfl rfl (hJ.sn.mono hs2.x) hmr' ?_)
          intro ad3 hn3 he3
          exact ⟨_, UpM.refl _ _, ad3, rfl, by rw [noteAt_get hn3]; exact he3⟩
        refine dr_cons (isSl eLine (noteAt notes L[j])) (by decide) (mono_isSl _ _) (ob1 rfl fun M w' hs2 v1 h1 => ?_) ?_
        · obtain ⟨ad3, rfl, he3⟩ := h1
          exact opg (op_load teSL rfl he3 fun u hu => ⟨_, UpM.refl _ _, eSl_V.1 hu⟩)
        refine dr_nil rfl (fun M11 w14 val hs2 hall2 => ?_)
        obtain ⟨h56, _, _, _, h52, _⟩ := hall2
        have e52 : val 52 = _ := h52
        replace hbl := hbl.up hs2
        replace hbs := hbs.up hs2
        replace hbr := hbr.up hs2
        replace hvl := hvl.mono hs2.x
        replace hJ := hJ.up hs2
        refine RT.sub (fr' := [(1, vn), (3, ptr bb), (5, ptr bh), (9, vp), (10, ptr bq), (11, ptr bl), (12, ptr bs), (13, ptr br), (14, .func (.func 44) #[] #[ptr bl, ptr bb, ptr br, ptr bs, ptr bq]), (46, vl), (47, .int .i64 L.length), (48, .int .i64 j), (52, val 52), (56, val 56)]) ?_ (by repeat (first | exact trivial | refine ⟨rfl, ?_⟩))
        rw [e52]
        generalize val 56 = v56 at h56
        clear hs2 h52 e52
        refine rt_one (i := 5) (by kernel_rfl) rfl (by decide) (op_append (E := eLine) (tag := 4) uL teL rfl rfl hJ.rn hJ.sq hJ.gq h56 (by rw [hq2, List.length_append]; show _ * 64 ≤ _; omega) ?_)
        intro vq3 w15 M12 hsq hgq hst
        obtain ⟨a3, c3, q3, _⟩ := hsq.ex
        refine rt_one0 (i := 6) (by kernel_rfl) rfl (op_store (c := [vq3]) tdSL rfl rfl (by rw [q3]; rfl) (by rw [q3]; simp [Value.oneCell']) rfl (hJ.rn.st hst) hBq (hJ.bq.st hst (by decide)) (by simp) ?_)
        intro w16 hbq hst2
        have hJ' : PgJ M w h notes vn bb bh bq M12 w16 bd (q2 ++ noteAt notes L[j]) ps vb vq3 vp :=
          ⟨(hJ.rn.st hst).st hst2, (hJ.bb.st hst (by decide)).st hst2 (by decide), (hJ.bh.st hst (by decide)).st hst2 (by decide), hbq, (hJ.sb.mono hst.x).mono hst2.x, hsq.mono hst2.x, hgq.st hst2 (by decide),
            (hJ.sp.mono hst.x).mono hst2.x, (hJ.gp.st hst (by decide)).st hst2 (by decide), (hJ.sn.mono hst.x).mono hst2.x, hJ.hr⟩
        replace hbl := (hbl.st hst (by decide)).st hst2 (by decide)
        replace hbs := (hbs.st hst (by decide)).st hst2 (by decide)
        replace hbr := (hbr.st hst (by decide)).st hst2 (by decide)
        replace hvl := (hvl.mono hst.x).mono hst2.x
        refine rt_nil (by kernel_rfl) ?_
        (repeat (first | refine run_region_l ?_ | refine rl_nil ?_ | refine rl_step (by decide) (op_move rfl ?_) | refine run_inBlock ?_ | refine rl_step (by decide) (op_add rfl rfl (by omega) ?_) | fail))
        exact (ih3 (j + 1, _, _, _) _ ⟨by show j + 1 ≤ _; omega, hJ', hbl, hbs, hbr, hvl, by show _ = _; rw [hq2, flat_take _ _ _ hj', List.append_assoc]⟩ (by show _ - (j + 1) < _ - j; omega)).sub (by repeat (first | exact trivial | refine ⟨rfl, ?_⟩))
      · have hjL : j = L.length := by omega
        subst hjL
        rw [List.take_length] at hq2
        have hq2l : q2.length = q1.length + (L.flatMap (noteAt notes)).length := by rw [hq2, List.length_append]
        have hgb := growM_bd h (n + 1) s q2.length hs.1 (by omega) hfb.1 (fun e1 e2 => by
          rcases hfb.2 with h3 | h3
          · have := hs0 e1
            rw [h3] at hq2l
            simp at hq2l
            omega
          · omega)
        rw [← hq2] at hfill
        (repeat (first | refine run_seq ?_ | refine run_region_l ?_ | refine run_exit rfl ?_ | fail))
        refine rl_step (by decide) (op_load1 tdI rfl hbl rfl ?_)
        (repeat (first | refine rl_step (by decide) (op_add rfl rfl (by omega) ?_) | fail))
        refine rl_step0 (op_store (c := [.int .i64 (n + 1)]) tdI rfl rfl rfl (by simp [Value.oneCell']) rfl hJ.rn hBl hbl (by simp) ?_)
        intro w13 hbl hst
        replace hbl : Box M10 w13 bl 11 [.int .i64 (n + 1)] 3 := hbl
        replace hbs := hbs.st hst (by decide)
        replace hbr := hbr.st hst (by decide)
        replace hJ := hJ.st hst (by decide)
        clear hst hvl
        (repeat (first | refine run_seq ?_ | refine run_region_l ?_ | refine rl_nil ?_ | fail))
        refine rl_step (by decide) (op_load1 tdSL rfl hJ.bq rfl ?_)
        refine rl_step (by decide) (op_len uL rfl hJ.sq ?_)
        refine rl_step (by decide) (op_load1 tdI rfl hbs rfl ?_)
        (repeat (first | refine run_seq ?_ | refine run_region_l ?_ | refine rl_nil ?_ | refine rl_step (by decide) (op_move rfl ?_) | refine rl_step (by decide) (op_assign rfl ?_) | refine rl_step (by decide) (op_gtr rfl rfl ?_) | refine rl_step (by decide) (op_sub rfl rfl (by omega) ?_) | fail))
        refine run_if rfl (fun hmore => ?_) (fun hmore => ?_)
        · (repeat (first | refine run_seq ?_ | fail))
          refine region_dr (M := M10) 10 1 [] mixed rfl (by kernel_rfl) (fun w1 hs1 => ?_)
          replace hbl := hbl.up hs1
          replace hbs := hbs.up hs1
          replace hbr := hbr.up hs1
          replace hJ := hJ.up hs1
          clear hs1
          refine dr_cons (isv (.int .i64 s)) (by decide) (mono_isv _) (ob0 rfl fun M w' hs2 => opg (op_load1 tdI rfl (hbs.up hs2) rfl ⟨_, UpM.refl _ _, rfl⟩)) ?_
          refine dr_cons (isv _) (by decide) (mono_isv _) (ob0 rfl fun M w hs => opg (op_move rfl ⟨_, UpM.refl _ _, rfl⟩)) ?_
          refine dr_cons (isv (.func (.func 43) #[] #[ptr bh, ptr bl, ptr bs])) (by decide) (mono_isv _) (ob0 rfl fun M w' hs2 => opg (op_load1 tdF rfl (hbr.up hs2) rfl ⟨_, UpM.refl _ _, rfl⟩)) ?_
          refine dr_cons (isv (.int .i64 (h - (n + 1) - s - min s 1))) (by decide) (mono_isv _) (ob1 rfl fun M w' hs2 v1 k1 => ?_) ?_
          · cases k1
            refine opg (op_callv (cap := [ptr bh, ptr bl, ptr bs]) ent43 rfl rfl (room_c M w' bh bl bs 5 11 12 h (n + 1) s (hJ.bh.up hs2) (hbl.up hs2) (hbs.up hs2) (by omega) (by omega) (by omega)) ?_)
            rintro r w1 ⟨rfl, rfl⟩
            exact ⟨_, UpM.refl _ _, rfl⟩
          refine dr_cons (isv (.int .i64 (h - (n + 1) - s - min s 1 - 1))) (by decide) (mono_isv _) (ob1 rfl fun M w' hs2 v1 k1 => ?_) ?_
          · cases k1; exact opg (op_sub rfl rfl (by omega) ⟨_, UpM.refl _ _, rfl⟩)
          refine dr_cons (isv (.int .i64 s)) (by decide) (mono_isv _) (ob0 rfl fun M w' hs2 => opg (op_load1 tdI rfl (hbs.up hs2) rfl ⟨_, UpM.refl _ _, rfl⟩)) ?_
          refine dr_cons (isv (.int .i64 (min s 1))) (by decide) (mono_isv _) (ob1 rfl fun M w' hs2 v1 k1 => ?_) ?_
          · cases k1; exact opg (op_min rfl rfl ⟨_, UpM.refl _ _, rfl⟩)
          refine dr_cons (isv (.int .i64 (h - (n + 1) - s - min s 1 - 1 + min s 1))) (by decide) (mono_isv _) (ob2 rfl fun M w' hs2 v1 k1 v2 k2 => ?_) ?_
          · cases k1; cases k2; exact opg (op_add rfl rfl (by omega) ⟨_, UpM.refl _ _, rfl⟩)
          refine dr_cons (isv (.int .i64 (min (q2.length - s) (h - (n + 1) - s - min s 1 - 1 + min s 1)))) (by decide) (mono_isv _) (ob2 rfl fun M w' hs2 v1 k1 v2 k2 => ?_) ?_
          · cases k1; cases k2; exact opg (op_min rfl rfl ⟨_, UpM.refl _ _, rfl⟩)
          refine dr_cons (isv (.int .i64 (s + min (q2.length - s) (h - (n + 1) - s - min s 1 - 1 + min s 1)))) (by decide) (mono_isv _) (ob2 rfl fun M w' hs2 v1 k1 v2 k2 => ?_) ?_
          · cases k1; cases k2; exact opg (op_add rfl rfl (by omega) ⟨_, UpM.refl _ _, rfl⟩)
          refine dr_nil rfl (fun M11 w14 val hs2 hall2 => ?_)
          obtain ⟨h76, _⟩ := hall2
          have e76 : val 76 = _ := h76
          replace hbl := hbl.up hs2
          replace hbs := hbs.up hs2
          replace hbr := hbr.up hs2
          replace hJ := hJ.up hs2
          have hg : growM h (n + 1) s q2.length = s + min (q2.length - s) (h - (n + 1) - s - min s 1 - 1 + min s 1) := if_pos hmore
          rw [← hg] at e76
          refine RT.sub (fr' := [(1, vn), (3, ptr bb), (5, ptr bh), (9, vp), (10, ptr bq), (11, ptr bl), (12, ptr bs), (13, ptr br), (14, .func (.func 44) #[] #[ptr bl, ptr bb, ptr br, ptr bs, ptr bq]), (76, val 76)]) ?_ (by repeat (first | exact trivial | refine ⟨rfl, ?_⟩))
          rw [e76]
          clear hs2 h76 e76 hg
          refine rt_one0 (i := 10) (by kernel_rfl) rfl (op_store (c := [.int .i64 (growM h (n + 1) s q2.length)]) tdI rfl rfl rfl (by simp [Value.oneCell']) rfl hJ.rn hBs hbs (by simp) ?_)
          intro w15 hbs hst
          replace hbs : Box M11 w15 bs 12 [.int .i64 (growM h (n + 1) s q2.length)] 3 := hbs
          replace hbl := hbl.st hst (by decide)
          replace hbr := hbr.st hst (by decide)
          replace hJ := hJ.st hst (by decide)
          refine rt_nil (by kernel_rfl) ?_
          (repeat (first | refine run_inBlock ?_ | fail))
          generalize growM h (n + 1) s q2.length = s' at hgb hfill hbs
          refine (ih2 ⟨n + 1, s', q2, vq2, M11⟩ _ ⟨hJ, hbl, hbs, hbr, ⟨by simp only; omega, by simp only; omega⟩, ⟨by simp only; omega, hgb.2.1⟩, hgb.2.2.1, by simp only; omega, ?_, by simp only; omega, by simp only; omega, ?_⟩ (by simp only; omega)).sub (by repeat (first | exact trivial | refine ⟨rfl, ?_⟩))
          · simp only
            rw [show (n + 1).toNat = n.toNat + 1 by omega]
            omega
          · simp only
            rw [show (n + 1).toNat = n.toNat + 1 by omega]
            exact hfill
        · (repeat (first | refine run_inBlock ?_ | refine run_skip ?_ | fail))
          have hg : growM h (n + 1) s q2.length = s := if_neg hmore
          rw [hg] at hgb hfill
          refine (ih2 ⟨n + 1, s, q2, vq2, M10⟩ _ ⟨hJ, hbl, hbs, hbr, ⟨by simp only; omega, by simp only; omega⟩, ⟨hs.1, hgb.2.1⟩, hgb.2.2.1, by simp only; omega, ?_, hmin, by simp only; omega, ?_⟩ (by simp only; omega)).sub (by repeat (first | exact trivial | refine ⟨rfl, ?_⟩))
          · simp only
            rw [show (n + 1).toNat = n.toNat + 1 by omega]
            omega
          · simp only
            rw [show (n + 1).toNat = n.toNat + 1 by omega]
            exact hfill
    · (repeat (first | refine run_seq ?_ | refine run_exit rfl ?_ | fail))
      have hprog : 0 < n + s := by
        rcases Int.lt_or_eq_of_le hn.1 with h' | h'
        · omega
        · obtain ⟨e1, e2⟩ := hn0 h'.symm
          rcases Nat.eq_zero_or_pos q.length with h2 | h2
          · have hlt : n.toNat < bd.length := by omega
            rw [List.getElem?_eq_getElem hlt] at hb
            simp only at hb
            have h3 : s = 0 := by omega
            generalize bd[n.toNat] = x at hb
            rw [← h', h3, e2, h2, show ((0 : Nat) : Int) = 0 from rfl] at hb
            rw [fits_first x hh1] at hb
            cases hb
          · omega
      have hfin : fillM h notes bd 0 q (min q.length (h - 1)) = (n, q1, s) := by
        rw [← hfill]
        rcases Nat.lt_or_ge n.toNat bd.length with h' | h'
        · rw [List.getElem?_eq_getElem h'] at hb
          simp only at hb
          rw [List.drop_eq_getElem_cons h', fillM, hb]
          rfl
        · rw [List.drop_eq_nil_of_le h', fillM]
      have hset : ∃ f', f = f' + 1 ∧ setM h notes f bd q = ⟨0, 0, 0, 0, bd.take n.toNat, q1.take s.toNat⟩ :: setM h notes f' (bd.drop n.toNat) (q1.drop s.toNat) := by
        refine ⟨f - 1, by omega, ?_⟩
        have hne : (bd.isEmpty && q.isEmpty) = false := by
          rw [Bool.and_eq_false_iff]
          rcases Nat.eq_zero_or_pos bd.length with h1 | h1
          · right
            cases q with
            | nil => simp at hne'; omega
            | cons => rfl
          · left
            cases bd with
            | nil => simp at h1
            | cons => rfl
        rw [show f = (f - 1) + 1 by omega, setM, hne, hfin]
        simp
      obtain ⟨f', rfl, hset⟩ := hset
      rw [hset, List.append_cons] at hall
      clear hb hfill hset hfin hn0
      refine region_dr (M := M9) 11 2 [] mixed rfl (by kernel_rfl) (fun w1 hs1 => ?_)
      replace hbl := hbl.up hs1
      replace hbs := hbs.up hs1
      replace hJ := hJ.up hs1
      clear hs1 hbr
      refine dr_cons (isv _) (by decide) (mono_isv _) (ob0 rfl fun M w hs => opg (op_move rfl ⟨_, UpM.refl _ _, rfl⟩)) ?_
      refine dr_cons (isv vb) (by decide) (mono_isv _) (ob0 rfl fun M w' hs2 => opg (op_load1 tdSL rfl (hJ.bb.up hs2) rfl ⟨_, UpM.refl _ _, rfl⟩)) ?_
      refine dr_cons (isv (.int .i64 n)) (by decide) (mono_isv _) (ob0 rfl fun M w' hs2 => opg (op_load1 tdI rfl (hbl.up hs2) rfl ⟨_, UpM.refl _ _, rfl⟩)) ?_
      refine dr_cons (isSl eLine (bd.take n.toNat)) (by decide) (mono_isSl _ _) (ob2 rfl fun M w' hs2 v1 k1 v2 k2 => ?_) ?_
      · cases k1; cases k2
        exact opg (op_slice_h uL teL rfl rfl (hJ.sb.mono hs2.x) hn fun u hu => ⟨_, UpM.refl _ _, hu⟩)
      refine dr_cons (isSl eLine (bd.take n.toNat)) (by decide) (mono_isSl _ _) (ob1 rfl fun M w' hs2 v1 k1 => ?_) ?_
      · exact opg (op_call ent45 rfl (clone_c M _ _ _ (hs2.mb hJ.rn.mb) k1) fun u w2 hu => ⟨_, UpM.of_below hu.1, hu.2⟩)
      refine dr_cons (isv vq1) (by decide) (mono_isv _) (ob0 rfl fun M w' hs2 => opg (op_load1 tdSL rfl (hJ.bq.up hs2) rfl ⟨_, UpM.refl _ _, rfl⟩)) ?_
      refine dr_cons (isv (.int .i64 s)) (by decide) (mono_isv _) (ob0 rfl fun M w' hs2 => opg (op_load1 tdI rfl (hbs.up hs2) rfl ⟨_, UpM.refl _ _, rfl⟩)) ?_
      refine dr_cons (isSl eLine (q1.take s.toNat)) (by decide) (mono_isSl _ _) (ob2 rfl fun M w' hs2 v1 k1 v2 k2 => ?_) ?_
      · cases k1; cases k2
        exact opg (op_slice_h uL teL rfl rfl (hJ.sq.mono hs2.x) hs fun u hu => ⟨_, UpM.refl _ _, hu⟩)
      refine dr_cons (isSl eLine (q1.take s.toNat)) (by decide) (mono_isSl _ _) (ob1 rfl fun M w' hs2 v1 k1 => ?_) ?_
      · exact opg (op_call ent45 rfl (clone_c M _ _ _ (hs2.mb hJ.rn.mb) k1) fun u w2 hu => ⟨_, UpM.of_below hu.1, hu.2⟩)
      refine dr_cons (isV ePg ⟨0, 0, 0, 0, bd.take n.toNat, q1.take s.toNat⟩) (by decide) (mono_isV _ _) (ob2 rfl fun M w' hs2 v1 k1 v2 k2 => ?_) ?_
      · obtain ⟨a1, c1, q1', _⟩ := SlOf.ex k1
        obtain ⟨a2, c2, q2', _⟩ := SlOf.ex k2
        refine opg (op_build (parts := [(3, .tmp 81), (4, .tmp 85)]) (vs := [v1, v2]) (pl := [(4, [v1]), (5, [v2])]) sbP rfl ⟨rfl, by rw [q1']; rfl, Nat.le_of_ble_eq_true rfl, rfl, by rw [q2']; rfl, Nat.le_of_ble_eq_true rfl, trivial⟩ ⟨_, UpM.refl _ _, ?_⟩)
        exact ePg_V.2 ⟨v1, v2, rfl, ⟨by unfold I64; simp, by unfold I64; simp, by unfold I64; simp, by unfold I64; simp⟩, k1, k2⟩
      refine dr_cons (isSl ePg [⟨0, 0, 0, 0, bd.take n.toNat, q1.take s.toNat⟩]) (by decide) (mono_isSl _ _) (ob1 rfl fun M w' hs2 v1 k1 => ?_) ?_
      · exact opg (op_buildSlice (E := ePg) (n := 1) (parts := [(0, .tmp 86)]) (vs := [v1]) (l := [⟨0, 0, 0, 0, bd.take n.toNat, q1.take s.toNat⟩]) uP teP (hJ.rn.up hs2) rfl rfl ⟨k1, trivial⟩ rfl ⟨by simp [ePg, Enc.via, Enc.app, eSl, eN], by simp [ePg, Enc.via]⟩ fun u w2 hu _ hbel => ⟨_, UpM.of_below hbel, hu⟩)
      refine dr_nil rfl (fun M11 w14 val hs2 hall2 => ?_)
      obtain ⟨h87, _, _, _, _, _, _, _, _, _, h77, _⟩ := hall2
      have e77 : val 77 = _ := h77
      replace hbl := hbl.up hs2
      replace hbs := hbs.up hs2
      replace hJ := hJ.up hs2
      refine RT.sub (fr' := [(1, vn), (3, ptr bb), (5, ptr bh), (10, ptr bq), (11, ptr bl), (12, ptr bs), (77, val 77), (87, val 87)]) ?_ (by repeat (first | exact trivial | refine ⟨rfl, ?_⟩))
      rw [e77]
      generalize val 87 = v87 at h87
      clear hs2 h77 e77
      refine rt_one (i := 11) (by kernel_rfl) rfl (by decide) (op_append (E := ePg) (tag := 9) uP teP rfl rfl hJ.rn hJ.sp hJ.gp h87 (by show (ps.length + 1) * 80 ≤ _; omega) ?_)
      intro vp2 w15 M12 hsp hgp hst
      replace hbl := hbl.st hst (by decide)
      replace hbs := hbs.st hst (by decide)
      have hJ : PgJ M w h notes vn bb bh bq M12 w15 bd q1 _ vb vq1 vp2 :=
        ⟨hJ.rn.st hst, hJ.bb.st hst (by decide), hJ.bh.st hst (by decide), hJ.bq.st hst (by decide), hJ.sb.mono hst.x, hJ.sq.mono hst.x, hJ.gq.st hst (by decide),
          hsp, hgp, hJ.sn.mono hst.x, hJ.hr⟩
      clear hst hsp hgp h87
      refine rt_one (i := 12) (by kernel_rfl) rfl (by decide) (op_assign rfl ?_)
      refine rt_nil (by kernel_rfl) ?_
      (repeat (first | refine run_seq ?_ | fail))
      refine region_dg (M := M12) (relW_ok w.heap.size) { tag := [none, none, none, none, none, none, some 3], pre := [[], [], [], [3], [3], [3], []], oth := [[3], [3], [3], [3], [3], [3], []] } 7 1 [] mixed rfl (by kernel_rfl) (fun w16 hs1 => ?_)
      replace hbl := hbl.up hs1
      replace hbs := hbs.up hs1
      replace hJ := hJ.up hs1
      clear hs1
      refine dg_cons (isv vb) (by decide) (fun _ _ _ _ _ _ h => h) (og0 rfl fun M w' hs2 => opg (op_load1 tdSL rfl (hJ.bb.stw hs2 (nin rfl)) rfl ⟨_, (relW_ok _).refl _ _, rfl⟩)) ?_
      refine dg_cons (isv (.int .i64 n)) (by decide) (fun _ _ _ _ _ _ h => h) (og0 rfl fun M w' hs2 => opg (op_load1 tdI rfl (hbl.stw hs2 (nin rfl)) rfl ⟨_, (relW_ok _).refl _ _, rfl⟩)) ?_
      refine dg_cons (isSl eLine (bd.drop n.toNat)) (by decide) (fun _ _ _ _ _ s h => h.mono s.x) (og2 rfl fun M w' hs2 v1 k1 v2 k2 => ?_) ?_
      · cases k1; cases k2
        exact opg (op_slice_l uL teL rfl rfl (hJ.sb.mono hs2.x) hn fun u hu => ⟨_, (relW_ok _).refl _ _, hu⟩)
      refine dg_cons (isv vq1) (by decide) (fun _ _ _ _ _ _ h => h) (og0 rfl fun M w' hs2 => opg (op_load1 tdSL rfl (hJ.bq.stw hs2 (nin rfl)) rfl ⟨_, (relW_ok _).mono (by simp) ((relW_ok _).refl _ _), rfl⟩)) ?_
      refine dg_cons (isv (.int .i64 s)) (by decide) (fun _ _ _ _ _ _ h => h) (og0 rfl fun M w' hs2 => opg (op_load1 tdI rfl (hbs.stw hs2 (nin rfl)) rfl ⟨_, (relW_ok _).mono (by simp) ((relW_ok _).refl _ _), rfl⟩)) ?_
      refine dg_cons (fun M w' v => SlOf eLine M w' v (q1.drop s.toNat) ∧ Grow w.heap.size M w' v (q1.drop s.toNat).length 4 4 42) (by decide) (fun _ _ _ _ _ s h => ⟨h.1.mono s.x, h.2.stw s (nin rfl)⟩) (og2 rfl fun M w' hs2 v1 k1 v2 k2 => ?_) ?_
      · cases k1; cases k2
        exact opg (op_slice_lG uL teL rfl rfl (hJ.sq.mono hs2.x) (hJ.gq.stw hs2 (nin rfl)) hs fun u hu hu2 => ⟨_, (relW_ok _).mono (by simp) ((relW_ok _).refl _ _), hu, hu2⟩)
      refine dg_cons0 (fun M w' => ∃ v, Box M w' bb 3 [v] 33 ∧ SlOf eLine M w' v (bd.drop n.toNat)) (fun _ _ _ _ _ s ⟨v, h1, h2⟩ => ⟨v, h1.stw s (nin rfl), h2.mono s.x⟩) (og1 rfl fun M w' hs2 v1 k1 => ?_) ?_
      · refine opg (op_store (c := [v1]) tdSL rfl rfl (by obtain ⟨_, _, q, _⟩ := SlOf.ex k1; rw [q]; rfl) (by obtain ⟨_, _, q, _⟩ := SlOf.ex k1; rw [q]; simp [Value.oneCell']) rfl (hJ.rn.stw hs2) hBb (hJ.bb.stw hs2 (nin rfl)) (by simp) fun w2 h1 h2 => ⟨_, StW.st h2, v1, h1, ?_⟩)
        exact SlOf.mono k1 h2.x
      refine dg_nil rfl (fun M13 w17 val hs2 hall2 => ?_)
      obtain ⟨⟨vb', hbb', hsb'⟩, ⟨hsq', hgq'⟩, _⟩ := hall2
      have e94 : SlOf eLine M13 w17 (val 94) (q1.drop s.toNat) := hsq'
      replace hgq' : Grow w.heap.size M13 w17 (val 94) (q1.drop s.toNat).length 4 4 42 := hgq'
      refine RT.sub (fr' := [(1, vn), (3, ptr bb), (5, ptr bh), (9, vp2), (10, ptr bq), (94, val 94)]) ?_ (by repeat (first | exact trivial | refine ⟨rfl, ?_⟩))
      generalize val 94 = vq' at e94 hgq'
      obtain ⟨aq, cq, qq, _⟩ := SlOf.ex e94
      refine rt_one0 (i := 7) (by kernel_rfl) rfl (op_store (c := [vq']) tdSL rfl rfl (by rw [qq]; rfl) (by rw [qq]; simp [Value.oneCell']) rfl (hJ.rn.stw hs2) hBq (hJ.bq.stw hs2 (nin rfl)) (by simp) ?_)
      intro w18 hbq hst
      replace hbq : Box M13 w18 bq 10 [vq'] 33 := hbq
      have hJ : PgJ M w h notes vn bb bh bq M13 w18 (bd.drop n.toNat) (q1.drop s.toNat) (ps ++ [⟨0, 0, 0, 0, bd.take n.toNat, q1.take s.toNat⟩]) vb' vq' vp2 :=
        ⟨(hJ.rn.stw hs2).st hst, hbb'.st hst (by decide), (hJ.bh.stw hs2 (nin rfl)).st hst (by decide), hbq, hsb'.mono hst.x, e94.mono hst.x, hgq'.st hst (by decide),
          (hJ.sp.mono hs2.x).mono hst.x, by simpa using (hJ.gp.stw hs2 (nin rfl)).st hst (by decide), (hJ.sn.mono hs2.x).mono hst.x, fun i hi => hJ.hr i (refs_sub hi)⟩
      refine rt_nil (by kernel_rfl) ?_
      clear hst hs2 hbq hsq' hgq' e94
      (repeat (first | refine run_inBlock ?_ | fail))
      have hd1 : (bd.drop n.toNat).length = bd.length - n.toNat := List.length_drop
      have hd2 : (q1.drop s.toNat).length = q1.length - s.toNat := List.length_drop
      refine (ih ⟨f', bd.drop n.toNat, q1.drop s.toNat, ps ++ [⟨0, 0, 0, 0, bd.take n.toNat, q1.take s.toNat⟩], vb', vq', vp2, M13⟩ _ ⟨hJ, ?_, ?_, hall⟩ ?_).sub (by repeat (first | exact trivial | refine ⟨rfl, ?_⟩))
      · simp only [List.length_append, List.length_cons, List.length_nil]
        omega
      · simp only
        omega
      · simp only
        omega
end Go.Proofs.YtocoinkhbjlbhaaDoor
end

section
namespace Go.Proofs.YtocoinkhbjlbhaaDoor
open Go Go.RowKit
def usedM (p : Pg) : Int := p.body.length + p.notes.length + min (p.notes.length : Int) 1
theorem pg_len {M : Mut} {w : World} {v : Value} {l : List Line} (h : SlOf eLine M w v l) : (l.length : Int) ≤ 2199023255552 := by
  have := h.bytes
  have e : eLine.by_ = 64 := rfl
  rw [e] at this
  omega
theorem room_p (M : Mut) (w : World) (v : Value) (p : Pg) (h : Int) (hm : MB M w) (hv : ePg.V M w v p) (hh : -1152921504606846976 ≤ h ∧ h ≤ 1152921504606846976) :
    CallsV Tryd.prog 50 [v, .int .i64 h] w (fun u w' => u = .int .i64 (max (h - p.body.length - p.notes.length - min (p.notes.length : Int) 1) 0) ∧ Below w.heap.size w w') := by
  obtain ⟨b, n, rfl, _, hb, hn⟩ := ePg_V.1 hv
  have hr := Rn.refl hm
  have l1 := pg_len hb
  have l2 := pg_len hn
  refine callsV_of_run Tryd.func50 rfl Tryd.ntmps50 (Nat.le_of_ble_eq_true rfl) ?_
  (repeat (first | refine run_seq ?_ | refine run_region_l ?_ | fail))
  refine rl_step (by decide) (op_box (cs := [.int .i64 p.num, .int .i64 p.suf, .int .i64 p.entry, .int .i64 p.version, b, n]) 1 hr rfl rfl ?_)
  intro bp w1 M1 hB hbox hs
  replace hb := hb.mono hs.x
  replace hn := hn.mono hs.x
  replace hr := hr.up hs
  (repeat (first | refine run_seq ?_ | refine run_region_l ?_ | refine rl_nil ?_ | refine rl_step (by decide) (op_move rfl ?_) | refine rl_step (by decide) (op_assign rfl ?_) | fail))
  refine rl_step (by decide) (op_fieldBox fdP3 rfl ?_)
  refine rl_step (by decide) (op_load1 tdSL rfl hbox rfl ?_)
  refine rl_step (by decide) (op_len uL rfl hb ?_)
  (repeat (first | refine rl_step (by decide) (op_sub rfl rfl (by omega) ?_) | fail))
  refine rl_step (by decide) (op_fieldBox fdP4 rfl ?_)
  refine rl_step (by decide) (op_load1 tdSL rfl hbox rfl ?_)
  refine rl_step (by decide) (op_len uL rfl hn ?_)
  (repeat (first | refine rl_step (by decide) (op_sub rfl rfl (by omega) ?_) | fail))
  refine rl_step (by decide) (op_fieldBox fdP4 rfl ?_)
  refine rl_step (by decide) (op_load1 tdSL rfl hbox rfl ?_)
  refine rl_step (by decide) (op_len uL rfl hn ?_)
  (repeat (first | refine rl_nil ?_ | refine rl_step (by decide) (op_assign rfl ?_) | refine rl_step (by decide) (op_min rfl rfl ?_) | refine rl_step (by decide) (op_max rfl rfl ?_) | refine rl_step (by decide) (op_sub rfl rfl (by omega) ?_) | fail))
  refine run_ret1 Tryd.func50 rfl rfl ?_
  exact ⟨rfl, hr.bel⟩
theorem used_c (M : Mut) (w : World) (v : Value) (p : Pg) (hm : MB M w) (hv : ePg.V M w v p) :
    CallsV Tryd.prog 69 [v] w (fun u w' => u = .int .i64 (usedM p) ∧ Below w.heap.size w w') := by
  obtain ⟨b, n, rfl, _, hb, hn⟩ := ePg_V.1 hv
  have hr := Rn.refl hm
  have l1 := pg_len hb
  have l2 := pg_len hn
  refine callsV_of_run Tryd.func69 rfl Tryd.ntmps69 (Nat.le_of_ble_eq_true rfl) ?_
  (repeat (first | refine run_seq ?_ | refine run_region_l ?_ | fail))
  refine rl_step (by decide) (op_box (cs := [.int .i64 p.num, .int .i64 p.suf, .int .i64 p.entry, .int .i64 p.version, b, n]) 1 hr rfl rfl ?_)
  intro bp w1 M1 hB hbox hs
  replace hb := hb.mono hs.x
  replace hn := hn.mono hs.x
  replace hr := hr.up hs
  (repeat (first | refine run_seq ?_ | refine run_region_l ?_ | refine rl_nil ?_ | refine rl_step (by decide) (op_assign rfl ?_) | fail))
  refine rl_step (by decide) (op_fieldBox fdP3 rfl ?_)
  refine rl_step (by decide) (op_load1 tdSL rfl hbox rfl ?_)
  refine rl_step (by decide) (op_len uL rfl hb ?_)
  (repeat (first | refine run_seq ?_ | fail))
  refine rl_step (by decide) (op_fieldBox fdP4 rfl ?_)
  refine rl_step (by decide) (op_load1 tdSL rfl hbox rfl ?_)
  refine rl_step (by decide) (op_len uL rfl hn ?_)
  (repeat (first | refine rl_step (by decide) (op_add rfl rfl (by omega) ?_) | fail))
  refine rl_step (by decide) (op_fieldBox fdP4 rfl ?_)
  refine rl_step (by decide) (op_load1 tdSL rfl hbox rfl ?_)
  refine rl_step (by decide) (op_len uL rfl hn ?_)
  (repeat (first | refine rl_nil ?_ | refine rl_step (by decide) (op_assign rfl ?_) | refine rl_step (by decide) (op_min rfl rfl ?_) | refine rl_step (by decide) (op_add rfl rfl (by omega) ?_) | fail))
  refine run_ret1 Tryd.func69 rfl rfl ?_
  exact ⟨rfl, hr.bel⟩
theorem usedM_bd {M : Mut} {w : World} {v : Value} {p : Pg} (hv : ePg.V M w v p) : 0 ≤ usedM p ∧ usedM p ≤ 8796093022208 := by
  obtain ⟨b, n, rfl, _, hb, hn⟩ := ePg_V.1 hv
  have l1 := pg_len hb
  have l2 := pg_len hn
  unfold usedM
  omega
theorem line_c (M : Mut) (w : World) (n : Int) (u : Value) (l : List Int) (hm : MB M w) (hu : SlOf eI M w u l) (hn : 0 ≤ n ∧ n ≤ 1000000) :
    CallsV Tryd.prog 47 [.int .i64 n, u] w (fun v w' => Below w.heap.size w w' ∧ eLine.V M w' v ⟨n, n + 1, [], l⟩) := by
  have hr := Rn.refl hm
  obtain ⟨a, c, rfl, _⟩ := SlOf.ex hu
  refine callsV_of_run Tryd.func47 rfl Tryd.ntmps47 (Nat.le_of_ble_eq_true rfl) ?_
  (repeat (first | refine run_seq ?_ | refine run_region_l ?_ | fail))
  refine rl_step (by decide) (op_alloc 1 hr tdL ?_)
  intro b w1 M1 hB hbox hs
  replace hu := hu.mono hs.x
  replace hr := hr.up hs
  (repeat (first | refine run_seq ?_ | refine run_region_l ?_ | refine rl_nil ?_ | refine rl_step (by decide) (op_move rfl ?_) | refine rl_step (by decide) (op_add rfl rfl (by omega) ?_) | fail))
  refine rl_step (by decide) (op_build (parts := [(0, .tmp 5), (1, .tmp 7), (3, .tmp 8)]) (vs := [.int .i64 n, .int .i64 (n + 1), .slice a l.length c]) (pl := [(0, [.int .i64 n]), (1, [.int .i64 (n + 1)]), (3, [.slice a l.length c])]) sbL rfl
    ⟨rfl, rfl, Nat.le_of_ble_eq_true rfl, rfl, rfl, Nat.le_of_ble_eq_true rfl, rfl, rfl, Nat.le_of_ble_eq_true rfl, trivial⟩ ?_)
  refine rl_step0 (op_store (c := [.int .i64 n, .int .i64 (n + 1), .slice none 0 0, .slice a l.length c]) tdL rfl rfl rfl (by simp [Value.oneCell']) rfl hr hB hbox (Nat.le_of_ble_eq_true rfl) ?_)
  intro w2 hbox hst
  replace hu := hu.mono hst.x
  replace hr := hr.st hst
  (repeat (first | refine rl_nil ?_ | fail))
  refine run_retc (cs := [.int .i64 n, .int .i64 (n + 1), .slice none 0 0, .slice a l.length c]) Tryd.func47 rfl rfl tdL hbox rfl ?_
  refine ⟨hr.bel, eLine_V.2 ⟨_, _, rfl, ?_, ?_, SlOf.nil _ _ _, hu.mono hr.fin⟩⟩ <;> (unfold I64; simp only; omega)
def linesM (a : Int) : Nat → List Line
  | 0 => []
  | k + 1 => linesM a k ++ [⟨a + k, a + k + 1, [], []⟩]
theorem linesM_len (a : Int) : ∀ k, (linesM a k).length = k
  | 0 => rfl
  | k + 1 => by rw [linesM, List.length_append, linesM_len a k]; rfl
theorem lines_c (M : Mut) (w : World) (a : Int) (k : Nat) (hm : MB M w) (ha : 0 ≤ a ∧ a ≤ 1000) (hk : k ≤ 1000) :
    CallsV Tryd.prog 48 [.int .i64 a, .int .i64 (a + k - 1)] w (fun v w' => Below w.heap.size w w' ∧ SlOf eLine M w' v (linesM a k)) := by
  have hr := Rn.refl hm
  refine callsV_of_run Tryd.func48 rfl Tryd.ntmps48 (Nat.le_of_ble_eq_true rfl) ?_
  (repeat (first | refine run_seq ?_ | refine run_region_l ?_ | refine rl_nil ?_ | refine rl_step (by decide) (op_move rfl ?_) | refine rl_step (by decide) (op_assign rfl ?_) | refine run_block ?_ | fail))
  refine (run_loop (α := Nat × Mut × Value) (fun x => [(1, .int .i64 (a + k - 1)), (5, x.2.2), (6, .int .i64 (a + x.1))])
    (fun x w' => x.1 ≤ k ∧ Rn M w x.2.1 w' ∧ SlOf eLine x.2.1 w' x.2.2 (linesM a x.1) ∧ Grow w.heap.size x.2.1 w' x.2.2 (linesM a x.1).length 4 5 42) (fun x => k - x.1) (0, M, .slice none 0 0) ⟨Nat.zero_le _, hr, SlOf.nil _ _ _, Grow.nil⟩ ?_).sub
      (by refine ⟨rfl, rfl, ?_, trivial⟩; simp [look])
  clear hr
  rintro ⟨j, M1, v⟩ w1 ⟨hj, hr, hs, hg⟩ ih
  simp only at hj hr hs hg ih
  try dsimp only
  (repeat (first | refine run_seq ?_ | refine run_region_l ?_ | refine rl_nil ?_ | refine rl_step (by decide) (op_move rfl ?_) | refine rl_step (by decide) (op_leq rfl rfl ?_) | fail))
  refine run_if rfl (fun hc => ?_) (fun hc => ?_)
  · (repeat (first | refine run_seq ?_ | refine run_region_l ?_ | refine rl_step (by decide) (op_move rfl ?_) | refine run_block ?_ | refine run_skip ?_ | fail))
    refine rl_step (by decide) (op_call ent47 rfl (line_c M1 w1 (a + j) (.slice none 0 0) [] hr.mb (SlOf.nil _ _ _) (by omega)) ?_)
    rintro u w2 ⟨hbel, hu⟩
    have hs1 : UpM M1 w1 M1 w2 := UpM.of_below hbel
    replace hs := hs.mono hs1.x
    replace hr := hr.up hs1
    replace hg := hg.up hs1
    refine rl_step (by decide) (op_buildSlice (E := eLine) (n := 1) (parts := [(0, .tmp 15)]) (vs := [u]) (l := [⟨a + j, a + j + 1, [], []⟩]) uL teL hr rfl rfl ⟨hu, trivial⟩ rfl ⟨Nat.le_of_ble_eq_true rfl, Nat.le_of_ble_eq_true rfl⟩ ?_)
    intro u2 w3 hu2 _ hbel2
    have hs2 : UpM M1 w2 M1 w3 := UpM.of_below hbel2
    replace hs := hs.mono hs2.x
    replace hr := hr.up hs2
    replace hg := hg.up hs2
    refine rl_step (by decide) (op_append (E := eLine) (tag := 5) uL teL rfl rfl hr hs hg hu2 (by rw [linesM_len]; show (j + 1) * 64 ≤ _; omega) ?_)
    intro v2 w4 M2 hs3 hg3 hst
    replace hr := hr.st hst
    (repeat (first | refine run_region_l ?_ | refine rl_nil ?_ | refine rl_step (by decide) (op_move rfl ?_) | refine rl_step (by decide) (op_assign rfl ?_) | refine run_inBlock ?_ | refine rl_step (by decide) (op_add rfl rfl (by omega) ?_) | fail))
    refine (ih (j + 1, M2, v2) w4 ⟨by omega, hr, hs3, hg3⟩ (by simp only; omega)).sub ?_
    refine ⟨rfl, rfl, ?_, trivial⟩
    simp [look, Int.add_assoc]
  · (repeat (first | refine run_seq ?_ | refine run_region_l ?_ | refine rl_nil ?_ | refine rl_step (by decide) (op_move rfl ?_) | refine rl_step (by decide) (op_assign rfl ?_) | refine run_exit rfl ?_ | fail))
    refine run_ret1 Tryd.func48 rfl rfl ?_
    rw [show j = k by omega] at hs
    exact ⟨hr.bel, hs.mono hr.fin⟩
theorem shape_c (M : Mut) (w : World) (v : Value) (p : Pg) (a b c d : Int) (hm : MB M w) (hv : ePg.V M w v p) (ha : 0 ≤ a ∧ a ≤ 1000) (hb : 0 ≤ b ∧ b ≤ 1000) (hc : 0 ≤ c ∧ c ≤ 1000) (hd : 0 ≤ d ∧ d ≤ 1000)
    (h1 : (p.body.length : Int) = b - a + 1) (h2 : (p.notes.length : Int) = d - c + 1) (h3 : p.body.map (·.frm) = (List.range p.body.length).map fun (i : Nat) => a + (i : Int)) (h4 : p.notes.map (·.frm) = (List.range p.notes.length).map fun (i : Nat) => c + (i : Int)) :
    CallsV Tryd.prog 49 [v, .int .i64 a, .int .i64 b, .int .i64 c, .int .i64 d] w (fun u w' => u = .bool true ∧ Below w.heap.size w w') := by
  obtain ⟨vb, vn, rfl, _, hsb, hsn⟩ := ePg_V.1 hv
  have hr := Rn.refl hm
  refine callsV_of_run Tryd.func49 rfl Tryd.ntmps49 (Nat.le_of_ble_eq_true rfl) ?_
  (repeat (first | refine run_seq ?_ | refine run_region_l ?_ | fail))
  refine rl_step (by decide) (op_box (cs := [.int .i64 p.num, .int .i64 p.suf, .int .i64 p.entry, .int .i64 p.version, vb, vn]) 1 hr rfl rfl ?_)
  intro bp w1 M1 hB hbox hs
  replace hsb := hsb.mono hs.x
  replace hsn := hsn.mono hs.x
  replace hr := hr.up hs
  (repeat (first | refine run_seq ?_ | refine run_region_l ?_ | refine rl_nil ?_ | refine rl_step (by decide) (op_assign rfl ?_) | fail))
  refine rl_step (by decide) (op_fieldBox fdP3 rfl ?_)
  refine rl_step (by decide) (op_load1 tdSL rfl hbox rfl ?_)
  refine rl_step (by decide) (op_len uL rfl hsb ?_)
  (repeat (first | refine rl_step (by decide) (op_move rfl ?_) | refine rl_step (by decide) (op_neq rfl rfl ?_) | refine rl_step (by decide) (op_add rfl rfl (by omega) ?_) | refine rl_step (by decide) (op_sub rfl rfl (by omega) ?_) | fail))
  refine rl_part 21 rfl (fun h => absurd h1 h) (fun _ => ?_)
  (repeat (first | refine rl_yes rfl rfl ?_ | fail))
  refine rl_step (by decide) (op_fieldBox fdP4 rfl ?_)
  (repeat (first | refine rl_yes rfl rfl ?_ | fail))
  refine rl_step (by decide) (op_load1 tdSL rfl hbox rfl ?_)
  (repeat (first | refine rl_yes rfl rfl ?_ | fail))
  refine rl_step (by decide) (op_len uL rfl hsn ?_)
  (repeat (first | refine rl_nil ?_ | refine rl_step (by decide) (op_move rfl ?_) | refine rl_yes rfl rfl ?_ | refine rl_step (by decide) (op_pick_f rfl rfl ?_) | refine rl_step (by decide) (op_neq rfl rfl ?_) | refine rl_step (by decide) (op_add rfl rfl (by omega) ?_) | refine rl_step (by decide) (op_sub rfl rfl (by omega) ?_) | fail))
  refine run_if rfl (fun h => absurd h2 h) (fun _ => ?_)
  (repeat (first | refine run_seq ?_ | refine run_region_l ?_ | refine rl_nil ?_ | refine rl_step (by decide) (op_assign rfl ?_) | refine run_block ?_ | refine run_skip ?_ | fail))
  refine (run_loop (α := Nat) (fun x => [(1, .int .i64 a), (3, .int .i64 c), (5, .pointer (some ⟨bp, 0, none⟩)), (11, .int .i64 x)])
    (fun x w' => x ≤ p.body.length ∧ w' = w1) (fun x => p.body.length - x) 0 ⟨Nat.zero_le _, rfl⟩ ?_).sub (by repeat (first | exact trivial | refine ⟨rfl, ?_⟩))
  rintro i wA ⟨hi, rfl⟩ ih
  try simp only at ih
  try dsimp only
  (repeat (first | refine run_seq ?_ | refine run_region_l ?_ | refine rl_step (by decide) (op_move rfl ?_) | fail))
  refine rl_step (by decide) (op_fieldBox fdP3 rfl ?_)
  refine rl_step (by decide) (op_load1 tdSL rfl hbox rfl ?_)
  refine rl_step (by decide) (op_len uL rfl hsb ?_)
  (repeat (first | refine rl_nil ?_ | refine rl_step (by decide) (op_lss rfl rfl ?_) | fail))
  refine run_if rfl (fun hlt => ?_) (fun hlt => ?_)
  · have hlt' : i < p.body.length := by omega
    (repeat (first | refine run_seq ?_ | refine run_region_l ?_ | refine run_block ?_ | refine run_skip ?_ | fail))
    refine rl_step (by decide) (op_fieldBox fdP3 rfl ?_)
    refine rl_step (by decide) (op_load1 tdSL rfl hbox rfl ?_)
    (repeat (first | refine rl_step (by decide) (op_move rfl ?_) | fail))
    refine rl_step (by decide) (op_indexAddr uL teL rfl rfl hsb (by omega) ?_)
    intro ad _ he
    refine rl_step (by decide) (op_fieldAddr fdL0 rfl ?_)
    refine rl_step (by decide) (op_load teI rfl he.line.1 ?_)
    intro u hu
    obtain ⟨rfl, _⟩ := eI_V.1 hu
    (repeat (first | refine rl_nil ?_ | refine rl_step (by decide) (op_move rfl ?_) | refine rl_step (by decide) (op_neq rfl rfl ?_) | refine rl_step (by decide) (op_add rfl rfl (by omega) ?_) | fail))
    have hf : p.body[i].frm = a + i := by
      have := congrArg (fun l : List Int => l[i]?) h3
      simp [hlt'] at this
      exact this
    refine run_if rfl (fun h => absurd (by simpa using hf) h) (fun _ => ?_)
    (repeat (first | refine run_region_l ?_ | refine rl_nil ?_ | refine rl_step (by decide) (op_move rfl ?_) | refine rl_step (by decide) (op_assign rfl ?_) | refine run_inBlock ?_ | refine run_skip ?_ | refine rl_step (by decide) (op_add rfl rfl (by omega) ?_) | fail))
    exact (ih (i + 1) _ ⟨by omega, rfl⟩ (by omega)).sub (by repeat (first | exact trivial | refine ⟨rfl, ?_⟩))
  (repeat (first | refine run_seq ?_ | refine run_region_l ?_ | refine rl_nil ?_ | refine rl_step (by decide) (op_assign rfl ?_) | refine run_block ?_ | refine run_exit rfl ?_ | fail))
  refine (run_loop (α := Nat) (fun x => [(3, .int .i64 c), (5, .pointer (some ⟨bp, 0, none⟩)), (12, .int .i64 x)])
    (fun x w' => x ≤ p.notes.length ∧ w' = wA) (fun x => p.notes.length - x) 0 ⟨Nat.zero_le _, rfl⟩ ?_).sub (by repeat (first | exact trivial | refine ⟨rfl, ?_⟩))
  clear ih hlt hi
  rintro i _ ⟨hi, rfl⟩ ih
  try simp only at ih
  try dsimp only
  (repeat (first | refine run_seq ?_ | refine run_region_l ?_ | refine rl_step (by decide) (op_move rfl ?_) | fail))
  refine rl_step (by decide) (op_fieldBox fdP4 rfl ?_)
  refine rl_step (by decide) (op_load1 tdSL rfl hbox rfl ?_)
  refine rl_step (by decide) (op_len uL rfl hsn ?_)
  (repeat (first | refine rl_nil ?_ | refine rl_step (by decide) (op_lss rfl rfl ?_) | fail))
  refine run_if rfl (fun hlt => ?_) (fun hlt => ?_)
  · have hlt' : i < p.notes.length := by omega
    (repeat (first | refine run_seq ?_ | refine run_region_l ?_ | refine run_block ?_ | refine run_skip ?_ | fail))
    refine rl_step (by decide) (op_fieldBox fdP4 rfl ?_)
    refine rl_step (by decide) (op_load1 tdSL rfl hbox rfl ?_)
    (repeat (first | refine rl_step (by decide) (op_move rfl ?_) | fail))
    refine rl_step (by decide) (op_indexAddr uL teL rfl rfl hsn (by omega) ?_)
    intro ad _ he
    refine rl_step (by decide) (op_fieldAddr fdL0 rfl ?_)
    refine rl_step (by decide) (op_load teI rfl he.line.1 ?_)
    intro u hu
    obtain ⟨rfl, _⟩ := eI_V.1 hu
    (repeat (first | refine rl_nil ?_ | refine rl_step (by decide) (op_move rfl ?_) | refine rl_step (by decide) (op_neq rfl rfl ?_) | refine rl_step (by decide) (op_add rfl rfl (by omega) ?_) | fail))
    have hf : p.notes[i].frm = c + i := by
      have := congrArg (fun l : List Int => l[i]?) h4
      simp [hlt'] at this
      exact this
    refine run_if rfl (fun h => absurd (by simpa using hf) h) (fun _ => ?_)
    (repeat (first | refine run_region_l ?_ | refine rl_nil ?_ | refine rl_step (by decide) (op_move rfl ?_) | refine rl_step (by decide) (op_assign rfl ?_) | refine run_inBlock ?_ | refine run_skip ?_ | refine rl_step (by decide) (op_add rfl rfl (by omega) ?_) | fail))
    exact (ih (i + 1) _ ⟨by omega, rfl⟩ (by omega)).sub (by repeat (first | exact trivial | refine ⟨rfl, ?_⟩))
  (repeat (first | refine run_seq ?_ | refine run_region_l ?_ | refine rl_nil ?_ | refine rl_step (by decide) (op_assign rfl ?_) | refine run_exit rfl ?_ | fail))
  refine run_ret1 Tryd.func49 rfl rfl ?_
  exact ⟨rfl, hr.bel⟩
end Go.Proofs.YtocoinkhbjlbhaaDoor
end

section
namespace Go.Proofs.YtocoinkhbjlbhaaDoor
open Go Go.RowKit
theorem set_val (M : Mut) (vb vn : Value) (body : List Line) (notes : List (List Line)) (h e : Int) (ps : List Pg) (w : World) (hm : MB M w) (hb : SlOf eLine M w vb body) (hn : SlOf (eSl eLine) M w vn notes) (hI : I64 h)
    (hsz : body.length ≤ 1000000 ∧ sumR notes body ≤ 1000000) (he : chkM body notes h = e) (hp : (if e = 0 then setAll h body notes else []) = ps) :
    CallsV Tryd.prog 23 [vb, vn, .int .i64 h] w (fun u w' => Below w.heap.size w w' ∧ ∃ vp, u = .tuple #[vp, .int .i64 e] ∧ SlOf ePg M w' vp ps) :=
  (set_c M vb vn body notes h w hm hb hn hI fun _ => hsz).mono fun u w' ⟨⟨vp, h1, h2⟩, h3⟩ => by
    rw [he] at h1 h2
    rw [hp] at h2
    exact ⟨h3, vp, h1, h2⟩
def oneM : List Line := [⟨10, 11, [], []⟩, ⟨11, 12, [], [0]⟩, ⟨12, 13, [], []⟩, ⟨13, 14, [], []⟩, ⟨14, 15, [], []⟩]
def twoM : List Line := [⟨10, 11, [], []⟩, ⟨11, 12, [], [0, 1]⟩, ⟨12, 13, [], []⟩, ⟨13, 14, [], []⟩, ⟨14, 15, [], []⟩]
def pgsOne : List Pg := [⟨0, 0, 0, 0, [⟨10, 11, [], []⟩, ⟨11, 12, [], [0]⟩], [⟨1, 2, [], []⟩]⟩, ⟨0, 0, 0, 0, [⟨12, 13, [], []⟩], [⟨2, 3, [], []⟩, ⟨3, 4, [], []⟩]⟩, ⟨0, 0, 0, 0, [⟨13, 14, [], []⟩, ⟨14, 15, [], []⟩], []⟩]
def pgsTwo : List Pg := [⟨0, 0, 0, 0, [⟨10, 11, [], []⟩, ⟨11, 12, [], [0, 1]⟩], [⟨1, 2, [], []⟩]⟩, ⟨0, 0, 0, 0, [], [⟨2, 3, [], []⟩, ⟨3, 4, [], []⟩, ⟨4, 5, [], []⟩]⟩, ⟨0, 0, 0, 0, [⟨12, 13, [], []⟩], [⟨5, 6, [], []⟩, ⟨6, 7, [], []⟩]⟩, ⟨0, 0, 0, 0, [⟨13, 14, [], []⟩, ⟨14, 15, [], []⟩], []⟩]
theorem chkOne : chkM oneM [linesM 1 3] 4 = 0 := rfl
theorem setOne : setAll 4 oneM [linesM 1 3] = pgsOne := rfl
theorem chkTwo : chkM twoM [linesM 1 1, linesM 2 5] 4 = 0 := rfl
theorem setTwo : setAll 4 twoM [linesM 1 1, linesM 2 5] = pgsTwo := rfl
theorem lives_c (M : Mut) (w : World) (hm : MB M w) : CallsV Tryd.prog 25 [] w (fun u w' => u = .bool true ∧ Below w.heap.size w w') := by
  have hr := Rn.refl hm
  refine callsV_of_run Tryd.func25 rfl Tryd.ntmps25 (Nat.le_of_ble_eq_true rfl) ?_
  (repeat (first | refine run_seq ?_ | refine run_region_l ?_ | refine rl_nil ?_ | refine rl_step (by decide) (op_assign rfl ?_) | fail))
  refine rl_step (by decide) (op_call ent47 rfl (line_c M _ 10 (.slice none 0 0) [] hr.mb (SlOf.nil _ _ _) (by omega)) ?_)
  rintro va0 wa0 ⟨hbel, ha0⟩
  have hs := UpM.of_below (M := M) hbel
  replace hr := hr.up hs
  clear hs hbel
  refine rl_step (by decide) (op_buildSlice (E := eI) (n := 1) (parts := [(0, .const (.int .i64 0))]) (vs := [.int .i64 0]) (l := [0]) uI teI hr rfl rfl ⟨eI_V.2 ⟨rfl, by unfold I64; omega⟩, trivial⟩ rfl ⟨Nat.le_of_ble_eq_true rfl, Nat.le_of_ble_eq_true rfl⟩ ?_)
  intro van wan han _ hbel
  have hs := UpM.of_below (M := M) hbel
  replace ha0 := ha0.mono hs.x
  replace hr := hr.up hs
  clear hs hbel
  refine rl_step (by decide) (op_call ent47 rfl (line_c M _ 11 van [0] hr.mb han (by omega)) ?_)
  rintro va1 wa1 ⟨hbel, ha1⟩
  have hs := UpM.of_below (M := M) hbel
  replace ha0 := ha0.mono hs.x
  replace han := han.mono hs.x
  replace hr := hr.up hs
  clear hs hbel
  refine rl_step (by decide) (op_call ent47 rfl (line_c M _ 12 (.slice none 0 0) [] hr.mb (SlOf.nil _ _ _) (by omega)) ?_)
  rintro va2 wa2 ⟨hbel, ha2⟩
  have hs := UpM.of_below (M := M) hbel
  replace ha0 := ha0.mono hs.x
  replace han := han.mono hs.x
  replace ha1 := ha1.mono hs.x
  replace hr := hr.up hs
  clear hs hbel
  refine rl_step (by decide) (op_call ent47 rfl (line_c M _ 13 (.slice none 0 0) [] hr.mb (SlOf.nil _ _ _) (by omega)) ?_)
  rintro va3 wa3 ⟨hbel, ha3⟩
  have hs := UpM.of_below (M := M) hbel
  replace ha0 := ha0.mono hs.x
  replace han := han.mono hs.x
  replace ha1 := ha1.mono hs.x
  replace ha2 := ha2.mono hs.x
  replace hr := hr.up hs
  clear hs hbel
  refine rl_step (by decide) (op_call ent47 rfl (line_c M _ 14 (.slice none 0 0) [] hr.mb (SlOf.nil _ _ _) (by omega)) ?_)
  rintro va4 wa4 ⟨hbel, ha4⟩
  have hs := UpM.of_below (M := M) hbel
  replace ha0 := ha0.mono hs.x
  replace han := han.mono hs.x
  replace ha1 := ha1.mono hs.x
  replace ha2 := ha2.mono hs.x
  replace ha3 := ha3.mono hs.x
  replace hr := hr.up hs
  clear hs hbel
  refine rl_step (by decide) (op_buildSlice (E := eLine) (n := 5) (parts := [(0, .tmp 15), (1, .tmp 17), (2, .tmp 18), (3, .tmp 19), (4, .tmp 20)]) (vs := [va0, va1, va2, va3, va4]) (l := oneM) uL teL hr rfl rfl ⟨ha0, ha1, ha2, ha3, ha4, trivial⟩ rfl ⟨Nat.le_of_ble_eq_true rfl, Nat.le_of_ble_eq_true rfl⟩ ?_)
  intro va wa ha _ hbel
  have hs := UpM.of_below (M := M) hbel
  replace ha0 := ha0.mono hs.x
  replace han := han.mono hs.x
  replace ha1 := ha1.mono hs.x
  replace ha2 := ha2.mono hs.x
  replace ha3 := ha3.mono hs.x
  replace ha4 := ha4.mono hs.x
  replace hr := hr.up hs
  clear hs hbel
  clear ha0 ha1 ha2 ha3 ha4 han
  (repeat (first | refine run_seq ?_ | refine run_region_l ?_ | refine rl_nil ?_ | refine rl_step (by decide) (op_assign rfl ?_) | fail))
  refine rl_step (by decide) (op_call ent47 rfl (line_c M _ 10 (.slice none 0 0) [] hr.mb (SlOf.nil _ _ _) (by omega)) ?_)
  rintro vb0 wb0 ⟨hbel, hb0⟩
  have hs := UpM.of_below (M := M) hbel
  replace ha := ha.mono hs.x
  replace hr := hr.up hs
  clear hs hbel
  refine rl_step (by decide) (op_buildSlice (E := eI) (n := 2) (parts := [(0, .const (.int .i64 0)), (1, .const (.int .i64 1))]) (vs := [.int .i64 0, .int .i64 1]) (l := [0, 1]) uI teI hr rfl rfl ⟨eI_V.2 ⟨rfl, by unfold I64; omega⟩, eI_V.2 ⟨rfl, by unfold I64; omega⟩, trivial⟩ rfl ⟨Nat.le_of_ble_eq_true rfl, Nat.le_of_ble_eq_true rfl⟩ ?_)
  intro vbn wbn hbn _ hbel
  have hs := UpM.of_below (M := M) hbel
  replace ha := ha.mono hs.x
  replace hb0 := hb0.mono hs.x
  replace hr := hr.up hs
  clear hs hbel
  refine rl_step (by decide) (op_call ent47 rfl (line_c M _ 11 vbn [0, 1] hr.mb hbn (by omega)) ?_)
  rintro vb1 wb1 ⟨hbel, hb1⟩
  have hs := UpM.of_below (M := M) hbel
  replace ha := ha.mono hs.x
  replace hb0 := hb0.mono hs.x
  replace hbn := hbn.mono hs.x
  replace hr := hr.up hs
  clear hs hbel
  refine rl_step (by decide) (op_call ent47 rfl (line_c M _ 12 (.slice none 0 0) [] hr.mb (SlOf.nil _ _ _) (by omega)) ?_)
  rintro vb2 wb2 ⟨hbel, hb2⟩
  have hs := UpM.of_below (M := M) hbel
  replace ha := ha.mono hs.x
  replace hb0 := hb0.mono hs.x
  replace hbn := hbn.mono hs.x
  replace hb1 := hb1.mono hs.x
  replace hr := hr.up hs
  clear hs hbel
  refine rl_step (by decide) (op_call ent47 rfl (line_c M _ 13 (.slice none 0 0) [] hr.mb (SlOf.nil _ _ _) (by omega)) ?_)
  rintro vb3 wb3 ⟨hbel, hb3⟩
  have hs := UpM.of_below (M := M) hbel
  replace ha := ha.mono hs.x
  replace hb0 := hb0.mono hs.x
  replace hbn := hbn.mono hs.x
  replace hb1 := hb1.mono hs.x
  replace hb2 := hb2.mono hs.x
  replace hr := hr.up hs
  clear hs hbel
  refine rl_step (by decide) (op_call ent47 rfl (line_c M _ 14 (.slice none 0 0) [] hr.mb (SlOf.nil _ _ _) (by omega)) ?_)
  rintro vb4 wb4 ⟨hbel, hb4⟩
  have hs := UpM.of_below (M := M) hbel
  replace ha := ha.mono hs.x
  replace hb0 := hb0.mono hs.x
  replace hbn := hbn.mono hs.x
  replace hb1 := hb1.mono hs.x
  replace hb2 := hb2.mono hs.x
  replace hb3 := hb3.mono hs.x
  replace hr := hr.up hs
  clear hs hbel
  refine rl_step (by decide) (op_buildSlice (E := eLine) (n := 5) (parts := [(0, .tmp 22), (1, .tmp 24), (2, .tmp 25), (3, .tmp 26), (4, .tmp 27)]) (vs := [vb0, vb1, vb2, vb3, vb4]) (l := twoM) uL teL hr rfl rfl ⟨hb0, hb1, hb2, hb3, hb4, trivial⟩ rfl ⟨Nat.le_of_ble_eq_true rfl, Nat.le_of_ble_eq_true rfl⟩ ?_)
  intro vb wb hb _ hbel
  have hs := UpM.of_below (M := M) hbel
  replace ha := ha.mono hs.x
  replace hb0 := hb0.mono hs.x
  replace hbn := hbn.mono hs.x
  replace hb1 := hb1.mono hs.x
  replace hb2 := hb2.mono hs.x
  replace hb3 := hb3.mono hs.x
  replace hb4 := hb4.mono hs.x
  replace hr := hr.up hs
  clear hs hbel
  clear hb0 hb1 hb2 hb3 hb4 hbn
  (repeat (first | refine run_seq ?_ | refine run_region_l ?_ | refine rl_nil ?_ | refine rl_step (by decide) (op_move rfl ?_) | refine rl_step (by decide) (op_assign rfl ?_) | fail))
  refine rl_step (by decide) (op_call ent48 rfl (lines_c M _ 1 3 hr.mb (by omega) (by omega)) ?_)
  rintro vl1 wl1 ⟨hbel, hl1⟩
  have hs := UpM.of_below (M := M) hbel
  replace ha := ha.mono hs.x
  replace hb := hb.mono hs.x
  replace hr := hr.up hs
  clear hs hbel
  refine rl_step (by decide) (op_buildSlice (E := (eSl eLine)) (n := 1) (parts := [(0, .tmp 31)]) (vs := [vl1]) (l := [linesM 1 3]) uLL teSL hr rfl rfl ⟨eSl_V.2 hl1, trivial⟩ rfl ⟨Nat.le_of_ble_eq_true rfl, Nat.le_of_ble_eq_true rfl⟩ ?_)
  intro vk1 wk1 hk1 _ hbel
  have hs := UpM.of_below (M := M) hbel
  replace ha := ha.mono hs.x
  replace hb := hb.mono hs.x
  replace hl1 := hl1.mono hs.x
  replace hr := hr.up hs
  clear hs hbel
  (repeat (first | refine run_seq ?_ | fail))
  refine rl_step (by decide) (op_call ent23 rfl (set_val M va vk1 oneM [linesM 1 3] 4 0 pgsOne _ hr.mb ha hk1 (by unfold I64; omega) ⟨Nat.le_of_ble_eq_true rfl, Nat.le_of_ble_eq_true rfl⟩ chkOne setOne) ?_)
  rintro _ wp1 ⟨hbel, vp1, rfl, hp1⟩
  have hs := UpM.of_below (M := M) hbel
  replace ha := ha.mono hs.x
  replace hb := hb.mono hs.x
  replace hl1 := hl1.mono hs.x
  replace hk1 := hk1.mono hs.x
  replace hr := hr.up hs
  clear hs hbel
  (repeat (first | refine run_seq ?_ | refine run_region_l ?_ | refine rl_nil ?_ | refine rl_step (by decide) (op_move rfl ?_) | refine rl_step (by decide) (op_assign rfl ?_) | refine rl_step (by decide) (op_extract rfl rfl ?_) | fail))
  refine rl_step (by decide) (op_call ent48 rfl (lines_c M _ 1 1 hr.mb (by omega) (by omega)) ?_)
  rintro vl2 wl2 ⟨hbel, hl2⟩
  have hs := UpM.of_below (M := M) hbel
  replace ha := ha.mono hs.x
  replace hb := hb.mono hs.x
  replace hl1 := hl1.mono hs.x
  replace hk1 := hk1.mono hs.x
  replace hp1 := hp1.mono hs.x
  replace hr := hr.up hs
  clear hs hbel
  refine rl_step (by decide) (op_call ent48 rfl (lines_c M _ 2 5 hr.mb (by omega) (by omega)) ?_)
  rintro vl3 wl3 ⟨hbel, hl3⟩
  have hs := UpM.of_below (M := M) hbel
  replace ha := ha.mono hs.x
  replace hb := hb.mono hs.x
  replace hl1 := hl1.mono hs.x
  replace hk1 := hk1.mono hs.x
  replace hp1 := hp1.mono hs.x
  replace hl2 := hl2.mono hs.x
  replace hr := hr.up hs
  clear hs hbel
  refine rl_step (by decide) (op_buildSlice (E := (eSl eLine)) (n := 2) (parts := [(0, .tmp 38), (1, .tmp 39)]) (vs := [vl2, vl3]) (l := [linesM 1 1, linesM 2 5]) uLL teSL hr rfl rfl ⟨eSl_V.2 hl2, eSl_V.2 hl3, trivial⟩ rfl ⟨Nat.le_of_ble_eq_true rfl, Nat.le_of_ble_eq_true rfl⟩ ?_)
  intro vk2 wk2 hk2 _ hbel
  have hs := UpM.of_below (M := M) hbel
  replace ha := ha.mono hs.x
  replace hb := hb.mono hs.x
  replace hl1 := hl1.mono hs.x
  replace hk1 := hk1.mono hs.x
  replace hp1 := hp1.mono hs.x
  replace hl2 := hl2.mono hs.x
  replace hl3 := hl3.mono hs.x
  replace hr := hr.up hs
  clear hs hbel
  (repeat (first | refine run_seq ?_ | fail))
  refine rl_step (by decide) (op_call ent23 rfl (set_val M vb vk2 twoM [linesM 1 1, linesM 2 5] 4 0 pgsTwo _ hr.mb hb hk2 (by unfold I64; omega) ⟨Nat.le_of_ble_eq_true rfl, Nat.le_of_ble_eq_true rfl⟩ chkTwo setTwo) ?_)
  rintro _ wp2 ⟨hbel, vp2, rfl, hp2⟩
  have hs := UpM.of_below (M := M) hbel
  replace ha := ha.mono hs.x
  replace hb := hb.mono hs.x
  replace hl1 := hl1.mono hs.x
  replace hk1 := hk1.mono hs.x
  replace hp1 := hp1.mono hs.x
  replace hl2 := hl2.mono hs.x
  replace hl3 := hl3.mono hs.x
  replace hk2 := hk2.mono hs.x
  replace hr := hr.up hs
  clear hs hbel
  (repeat (first | refine run_seq ?_ | refine run_region_l ?_ | refine rl_nil ?_ | refine rl_step (by decide) (op_move rfl ?_) | refine rl_step (by decide) (op_assign rfl ?_) | refine rl_step (by decide) (op_extract rfl rfl ?_) | fail))
  clear hl1 hl2 hl3 hk1 hk2 hb
  (repeat (first | refine run_seq ?_ | fail))
  refine rl_step (by decide) (op_call ent23 rfl (set_val M va (.slice none 0 0) oneM [] 4 12 [] _ hr.mb ha (SlOf.nil _ _ _) (by unfold I64; omega) ⟨Nat.le_of_ble_eq_true rfl, Nat.le_of_ble_eq_true rfl⟩ rfl rfl) ?_)
  rintro _ wp3 ⟨hbel, vp3, rfl, hp3⟩
  have hs := UpM.of_below (M := M) hbel
  replace ha := ha.mono hs.x
  replace hp1 := hp1.mono hs.x
  replace hp2 := hp2.mono hs.x
  replace hr := hr.up hs
  clear hs hbel
  (repeat (first | refine run_seq ?_ | refine run_region_l ?_ | refine rl_nil ?_ | refine rl_step (by decide) (op_move rfl ?_) | refine rl_step (by decide) (op_assign rfl ?_) | refine rl_step (by decide) (op_extract rfl rfl ?_) | fail))
  refine rl_step (by decide) (op_call ent48 rfl (lines_c M _ 1 2 hr.mb (by omega) (by omega)) ?_)
  rintro vl4 wl4 ⟨hbel, hl4⟩
  have hs := UpM.of_below (M := M) hbel
  replace ha := ha.mono hs.x
  replace hp1 := hp1.mono hs.x
  replace hp2 := hp2.mono hs.x
  replace hp3 := hp3.mono hs.x
  replace hr := hr.up hs
  clear hs hbel
  refine rl_step (by decide) (op_call ent48 rfl (lines_c M _ 1 1 hr.mb (by omega) (by omega)) ?_)
  rintro vl5 wl5 ⟨hbel, hl5⟩
  have hs := UpM.of_below (M := M) hbel
  replace ha := ha.mono hs.x
  replace hp1 := hp1.mono hs.x
  replace hp2 := hp2.mono hs.x
  replace hp3 := hp3.mono hs.x
  replace hl4 := hl4.mono hs.x
  replace hr := hr.up hs
  clear hs hbel
  refine rl_step (by decide) (op_buildSlice (E := (eSl eLine)) (n := 1) (parts := [(0, .tmp 51)]) (vs := [vl5]) (l := [linesM 1 1]) uLL teSL hr rfl rfl ⟨eSl_V.2 hl5, trivial⟩ rfl ⟨Nat.le_of_ble_eq_true rfl, Nat.le_of_ble_eq_true rfl⟩ ?_)
  intro vk4 wk4 hk4 _ hbel
  have hs := UpM.of_below (M := M) hbel
  replace ha := ha.mono hs.x
  replace hp1 := hp1.mono hs.x
  replace hp2 := hp2.mono hs.x
  replace hp3 := hp3.mono hs.x
  replace hl4 := hl4.mono hs.x
  replace hl5 := hl5.mono hs.x
  replace hr := hr.up hs
  clear hs hbel
  (repeat (first | refine run_seq ?_ | fail))
  refine rl_step (by decide) (op_call ent23 rfl (set_val M vl4 vk4 (linesM 1 2) [linesM 1 1] 4 3 [] _ hr.mb hl4 hk4 (by unfold I64; omega) ⟨Nat.le_of_ble_eq_true rfl, Nat.le_of_ble_eq_true rfl⟩ rfl rfl) ?_)
  rintro _ wp4 ⟨hbel, vp4, rfl, hp4⟩
  have hs := UpM.of_below (M := M) hbel
  replace ha := ha.mono hs.x
  replace hp1 := hp1.mono hs.x
  replace hp2 := hp2.mono hs.x
  replace hp3 := hp3.mono hs.x
  replace hl4 := hl4.mono hs.x
  replace hl5 := hl5.mono hs.x
  replace hk4 := hk4.mono hs.x
  replace hr := hr.up hs
  clear hs hbel
  (repeat (first | refine run_seq ?_ | refine run_region_l ?_ | refine rl_nil ?_ | refine rl_step (by decide) (op_move rfl ?_) | refine rl_step (by decide) (op_assign rfl ?_) | refine rl_step (by decide) (op_extract rfl rfl ?_) | fail))
  refine rl_step (by decide) (op_buildSlice (E := (eSl eLine)) (n := 1) (parts := [(0, .const (.slice none 0 0))]) (vs := [.slice none 0 0]) (l := [[]]) uLL teSL hr rfl rfl ⟨eSl_V.2 (SlOf.nil _ _ _), trivial⟩ rfl ⟨Nat.le_of_ble_eq_true rfl, Nat.le_of_ble_eq_true rfl⟩ ?_)
  intro vk5 wk5 hk5 _ hbel
  have hs := UpM.of_below (M := M) hbel
  replace ha := ha.mono hs.x
  replace hp1 := hp1.mono hs.x
  replace hp2 := hp2.mono hs.x
  replace hp3 := hp3.mono hs.x
  replace hl4 := hl4.mono hs.x
  replace hl5 := hl5.mono hs.x
  replace hk4 := hk4.mono hs.x
  replace hp4 := hp4.mono hs.x
  replace hr := hr.up hs
  clear hs hbel
  (repeat (first | refine run_seq ?_ | fail))
  refine rl_step (by decide) (op_call ent23 rfl (set_val M (.slice none 0 0) vk5 [] [[]] 4 1 [] _ hr.mb (SlOf.nil _ _ _) hk5 (by unfold I64; omega) ⟨Nat.le_of_ble_eq_true rfl, Nat.le_of_ble_eq_true rfl⟩ rfl rfl) ?_)
  rintro _ wp5 ⟨hbel, vp5, rfl, hp5⟩
  have hs := UpM.of_below (M := M) hbel
  replace ha := ha.mono hs.x
  replace hp1 := hp1.mono hs.x
  replace hp2 := hp2.mono hs.x
  replace hp3 := hp3.mono hs.x
  replace hl4 := hl4.mono hs.x
  replace hl5 := hl5.mono hs.x
  replace hk4 := hk4.mono hs.x
  replace hp4 := hp4.mono hs.x
  replace hk5 := hk5.mono hs.x
  replace hr := hr.up hs
  clear hs hbel
  (repeat (first | refine run_seq ?_ | refine run_region_l ?_ | refine rl_nil ?_ | refine rl_step (by decide) (op_move rfl ?_) | refine rl_step (by decide) (op_assign rfl ?_) | refine rl_step (by decide) (op_extract rfl rfl ?_) | fail))
  (repeat (first | refine run_seq ?_ | fail))
  refine rl_step (by decide) (op_call ent23 rfl (set_val M va (.slice none 0 0) oneM [] 3 5 [] _ hr.mb ha (SlOf.nil _ _ _) (by unfold I64; omega) ⟨Nat.le_of_ble_eq_true rfl, Nat.le_of_ble_eq_true rfl⟩ rfl rfl) ?_)
  rintro _ wp6 ⟨hbel, vp6, rfl, hp6⟩
  have hs := UpM.of_below (M := M) hbel
  replace ha := ha.mono hs.x
  replace hp1 := hp1.mono hs.x
  replace hp2 := hp2.mono hs.x
  replace hp3 := hp3.mono hs.x
  replace hl4 := hl4.mono hs.x
  replace hl5 := hl5.mono hs.x
  replace hk4 := hk4.mono hs.x
  replace hp4 := hp4.mono hs.x
  replace hk5 := hk5.mono hs.x
  replace hp5 := hp5.mono hs.x
  replace hr := hr.up hs
  clear hs hbel
  (repeat (first | refine run_seq ?_ | refine run_region_l ?_ | refine rl_nil ?_ | refine rl_step (by decide) (op_move rfl ?_) | refine rl_step (by decide) (op_assign rfl ?_) | refine rl_yes rfl rfl ?_ | refine rl_step (by decide) (op_pick_f rfl rfl ?_) | refine rl_step (by decide) (op_neq rfl rfl ?_) | refine rl_step (by decide) (op_extract rfl rfl ?_) | fail))
  clear hl4 hl5 hk4 hk5 hp3 hp4 hp5 hp6 ha
  refine rl_step (by decide) (op_len uP rfl hp1 ?_)
  (repeat (first | refine rl_step (by decide) (op_move rfl ?_) | refine rl_yes rfl rfl ?_ | refine rl_step (by decide) (op_pick_f rfl rfl ?_) | refine rl_step (by decide) (op_neq rfl rfl ?_) | fail))
  refine rl_step (by decide) (op_len uP rfl hp2 ?_)
  (repeat (first | refine run_seq ?_ | refine run_region_l ?_ | refine rl_nil ?_ | refine rl_step (by decide) (op_move rfl ?_) | refine run_skip ?_ | refine run_false rfl ?_ | refine rl_yes rfl rfl ?_ | refine rl_step (by decide) (op_pick_f rfl rfl ?_) | refine rl_step (by decide) (op_neq rfl rfl ?_) | fail))
  refine rl_step (by decide) (op_indexAddr uP teP rfl rfl hp1 ⟨by decide, by decide⟩ ?_)
  intro ad _ he
  (repeat (first | refine run_seq ?_ | fail))
  refine rl_step (by decide) (op_load teP rfl he ?_)
  clear he
  intro u1 hu1
  (repeat (first | refine run_seq ?_ | fail))
  refine rl_step (by decide) (op_call ent49 rfl (shape_c M _ _ _ 10 11 1 1 hr.mb hu1 (by omega) (by omega) (by omega) (by omega) rfl rfl rfl rfl) ?_)
  rintro _ w_ ⟨rfl, hbel⟩
  clear hu1
  have hs := UpM.of_below (M := M) hbel
  replace hp1 := hp1.mono hs.x
  replace hp2 := hp2.mono hs.x
  replace hr := hr.up hs
  clear hs hbel
  (repeat (first | refine rl_step (by decide) (op_move rfl ?_) | refine rl_yes rfl rfl ?_ | refine rl_step (by decide) (op_not rfl ?_) | fail))
  refine rl_step (by decide) (op_indexAddr uP teP rfl rfl hp1 ⟨by decide, by decide⟩ ?_)
  intro ad _ he
  (repeat (first | refine rl_yes rfl rfl ?_ | fail))
  refine rl_step (by decide) (op_load teP rfl he ?_)
  clear he
  intro u2 hu2
  (repeat (first | refine rl_yes rfl rfl ?_ | fail))
  refine rl_step (by decide) (op_call ent49 rfl (shape_c M _ _ _ 12 12 2 3 hr.mb hu2 (by omega) (by omega) (by omega) (by omega) rfl rfl rfl rfl) ?_)
  rintro _ w_ ⟨rfl, hbel⟩
  clear hu2
  have hs := UpM.of_below (M := M) hbel
  replace hp1 := hp1.mono hs.x
  replace hp2 := hp2.mono hs.x
  replace hr := hr.up hs
  clear hs hbel
  (repeat (first | refine rl_step (by decide) (op_move rfl ?_) | refine rl_yes rfl rfl ?_ | refine rl_step (by decide) (op_pick_f rfl rfl ?_) | refine rl_step (by decide) (op_not rfl ?_) | fail))
  refine rl_step (by decide) (op_indexAddr uP teP rfl rfl hp1 ⟨by decide, by decide⟩ ?_)
  intro ad _ he
  (repeat (first | refine rl_yes rfl rfl ?_ | fail))
  refine rl_step (by decide) (op_load teP rfl he ?_)
  clear he
  intro u3 hu3
  (repeat (first | refine rl_yes rfl rfl ?_ | fail))
  refine rl_step (by decide) (op_call ent49 rfl (shape_c M _ _ _ 13 14 1 0 hr.mb hu3 (by omega) (by omega) (by omega) (by omega) rfl rfl rfl rfl) ?_)
  rintro _ w_ ⟨rfl, hbel⟩
  clear hu3
  have hs := UpM.of_below (M := M) hbel
  replace hp1 := hp1.mono hs.x
  replace hp2 := hp2.mono hs.x
  replace hr := hr.up hs
  clear hs hbel
  (repeat (first | refine rl_step (by decide) (op_move rfl ?_) | refine rl_yes rfl rfl ?_ | refine rl_step (by decide) (op_pick_f rfl rfl ?_) | refine rl_step (by decide) (op_not rfl ?_) | fail))
  refine rl_step (by decide) (op_indexAddr uP teP rfl rfl hp1 ⟨by decide, by decide⟩ ?_)
  intro ad _ he
  (repeat (first | refine rl_yes rfl rfl ?_ | fail))
  refine rl_step (by decide) (op_load teP rfl he ?_)
  clear he
  intro u4 hu4
  (repeat (first | refine rl_yes rfl rfl ?_ | fail))
  refine rl_step (by decide) (op_call ent50 rfl (room_p M _ _ _ 4 hr.mb hu4 (by omega)) ?_)
  rintro _ w_ ⟨rfl, hbel⟩
  clear hu4
  have hs := UpM.of_below (M := M) hbel
  replace hp1 := hp1.mono hs.x
  replace hp2 := hp2.mono hs.x
  replace hr := hr.up hs
  clear hs hbel
  (repeat (first | refine run_seq ?_ | refine run_region_l ?_ | refine rl_nil ?_ | refine rl_step (by decide) (op_move rfl ?_) | refine run_skip ?_ | refine run_false rfl ?_ | refine rl_yes rfl rfl ?_ | refine rl_step (by decide) (op_pick_f rfl rfl ?_) | refine rl_step (by decide) (op_neq rfl rfl ?_) | fail))
  (repeat (first | refine run_seq ?_ | fail))
  refine rl_step (by decide) (op_indexAddr uP teP rfl rfl hp2 ⟨by decide, by decide⟩ ?_)
  intro ad _ he
  (repeat (first | refine run_seq ?_ | fail))
  refine rl_step (by decide) (op_load teP rfl he ?_)
  clear he
  intro u5 hu5
  (repeat (first | refine run_seq ?_ | fail))
  refine rl_step (by decide) (op_call ent49 rfl (shape_c M _ _ _ 10 11 1 1 hr.mb hu5 (by omega) (by omega) (by omega) (by omega) rfl rfl rfl rfl) ?_)
  rintro _ w_ ⟨rfl, hbel⟩
  clear hu5
  have hs := UpM.of_below (M := M) hbel
  replace hp1 := hp1.mono hs.x
  replace hp2 := hp2.mono hs.x
  replace hr := hr.up hs
  clear hs hbel
  (repeat (first | refine rl_step (by decide) (op_move rfl ?_) | refine rl_yes rfl rfl ?_ | fail))
  refine rl_step (by decide) (op_indexAddr uP teP rfl rfl hp2 ⟨by decide, by decide⟩ ?_)
  intro ad _ he
  (repeat (first | refine rl_yes rfl rfl ?_ | fail))
  refine rl_step (by decide) (op_load teP rfl he ?_)
  clear he
  intro u6 hu6
  (repeat (first | refine rl_yes rfl rfl ?_ | fail))
  refine rl_step (by decide) (op_call ent49 rfl (shape_c M _ _ _ 1 0 2 4 hr.mb hu6 (by omega) (by omega) (by omega) (by omega) rfl rfl rfl rfl) ?_)
  rintro _ w_ ⟨rfl, hbel⟩
  clear hu6
  have hs := UpM.of_below (M := M) hbel
  replace hp1 := hp1.mono hs.x
  replace hp2 := hp2.mono hs.x
  replace hr := hr.up hs
  clear hs hbel
  (repeat (first | refine rl_step (by decide) (op_move rfl ?_) | refine rl_yes rfl rfl ?_ | refine rl_step (by decide) (op_pick_t rfl rfl ?_) | fail))
  refine rl_step (by decide) (op_indexAddr uP teP rfl rfl hp2 ⟨by decide, by decide⟩ ?_)
  intro ad _ he
  (repeat (first | refine rl_yes rfl rfl ?_ | fail))
  refine rl_step (by decide) (op_load teP rfl he ?_)
  clear he
  intro u7 hu7
  (repeat (first | refine rl_yes rfl rfl ?_ | fail))
  refine rl_step (by decide) (op_call ent49 rfl (shape_c M _ _ _ 12 12 5 6 hr.mb hu7 (by omega) (by omega) (by omega) (by omega) rfl rfl rfl rfl) ?_)
  rintro _ w_ ⟨rfl, hbel⟩
  clear hu7
  have hs := UpM.of_below (M := M) hbel
  replace hp1 := hp1.mono hs.x
  replace hp2 := hp2.mono hs.x
  replace hr := hr.up hs
  clear hs hbel
  (repeat (first | refine rl_step (by decide) (op_move rfl ?_) | refine rl_yes rfl rfl ?_ | refine rl_step (by decide) (op_pick_t rfl rfl ?_) | fail))
  refine rl_step (by decide) (op_indexAddr uP teP rfl rfl hp2 ⟨by decide, by decide⟩ ?_)
  intro ad _ he
  (repeat (first | refine rl_yes rfl rfl ?_ | fail))
  refine rl_step (by decide) (op_load teP rfl he ?_)
  clear he
  intro u8 hu8
  (repeat (first | refine rl_yes rfl rfl ?_ | fail))
  refine rl_step (by decide) (op_call ent49 rfl (shape_c M _ _ _ 13 14 1 0 hr.mb hu8 (by omega) (by omega) (by omega) (by omega) rfl rfl rfl rfl) ?_)
  rintro _ w_ ⟨rfl, hbel⟩
  clear hu8
  have hs := UpM.of_below (M := M) hbel
  replace hp1 := hp1.mono hs.x
  replace hp2 := hp2.mono hs.x
  replace hr := hr.up hs
  clear hs hbel
  (repeat (first | refine rl_nil ?_ | refine rl_step (by decide) (op_assign rfl ?_) | refine rl_step (by decide) (op_pick_t rfl rfl ?_) | fail))
  refine run_ret1 Tryd.func25 rfl rfl ?_
  exact ⟨rfl, hr.bel⟩
end Go.Proofs.YtocoinkhbjlbhaaDoor
end

section
namespace Go.Proofs.YtocoinkhbjlbhaaDoor
open Go Go.RowKit
end Go.Proofs.YtocoinkhbjlbhaaDoor
end

section
namespace Go.Proofs.YtocoinkhbjlbhaaDoor
open Go Go.RowKit
structure SlBg (M : Mut) (w : World) (v : Value) (l : List Int) : Prop where
  ex : ∃ a cap, v = .slice a l.length cap ∧ l.length ≤ cap ∧ cap ≤ maxLen ∧ (a = none → cap = 0) ∧ ∀ ad, a = some ad → ∀ (i : Nat) (hi : i < l.length), Elem eI M w (ad.add (i * eI.sz)) l[i]
section
variable {P : Program} {N : Nat} {fr : Fr} {w : World} {Ψ : Value → World → Prop} {d : Option Tmp} {ty : TypeId} {pos : String} {aft : Array Edge} {g : Option (Nat × Bool)}
end
theorem i_len {M : Mut} {w : World} {v : Value} {l : List Int} (h : SlOf eI M w v l) : (l.length : Int) ≤ 17592186044416 := by
  have := h.bytes
  have e : eI.by_ = 8 := rfl
  rw [e] at this
  omega
structure OKB (body : List Line) (notes : List (List Line)) : Prop where
  lb : body.length ≤ 60
  ln : notes.length ≤ 2 * body.length
  nn : ∀ x ∈ notes, x ≠ [] ∧ x.length ≤ 9
  rf : refs body = (List.range notes.length).map fun (i : Nat) => (i : Int)
structure LJ (M0 : Mut) (w0 : World) (v : Value) (l : List Int) (M : Mut) (w : World) (body : List Line) (notes : List (List Line)) (vb vn : Value) : Prop where
  rn : Rn M0 w0 M w
  sl : SlBg M w v l
  sb : SlOf eLine M w vb body
  gb : Grow w0.heap.size M w vb body.length 4 1 42
  sn : SlOf (eSl eLine) M w vn notes
  gn : Grow w0.heap.size M w vn notes.length 1 2 33
structure XJ (B : Nat) (M : Mut) (w : World) (bx : Nat) (n : Int) (vx : Value) (ns : List Int) : Prop where
  box : Box M w bx 3 [.int .i64 n, .int .i64 (n + 1), .slice none 0 0, vx] 42
  sx : SlOf eI M w vx ns
  gx : Grow B M w vx ns.length 1 4 3
structure OS where
  i : Nat
  body : List Line
  notes : List (List Line)
  vb : Value
  vn : Value
  M : Mut
structure KS where
  k : Nat
  ns : List Int
  notes : List (List Line)
  vx : Value
  vn : Value
  M : Mut
structure NS where
  note : List Line
  vo : Value
  M : Mut
end Go.Proofs.YtocoinkhbjlbhaaDoor
end

section
namespace Go.Proofs.YtocoinkhbjlbhaaDoor
open Go Go.RowKit
theorem sameInts_c (M : Mut) (va vb : Value) (l : List Int) (w : World) (hm : MB M w) (hsa : SlOf eI M w va l) (hsb : SlOf eI M w vb l) :
    CallsV Tryd.prog 73 [va, vb] w (fun u w' => u = .bool true ∧ Below w.heap.size w w') := by
  have hr := Rn.refl hm
  have hl := i_len hsa
  refine callsV_of_run Tryd.func73 rfl Tryd.ntmps73 (Nat.le_of_ble_eq_true rfl) ?_
  (repeat (first | refine run_seq ?_ | refine run_region_l ?_ | refine rl_nil ?_ | refine rl_step (by decide) (op_move rfl ?_) | refine rl_step (by decide) (op_assign rfl ?_) | fail))
  refine rl_step (by decide) (op_len uI rfl hsa ?_)
  (repeat (first | refine rl_step (by decide) (op_move rfl ?_) | fail))
  refine rl_step (by decide) (op_len uI rfl hsb ?_)
  (repeat (first | refine rl_nil ?_ | refine rl_step (by decide) (op_neq rfl rfl ?_) | fail))
  refine run_if rfl (fun h => absurd rfl h) (fun _ => ?_)
  (repeat (first | refine run_seq ?_ | refine run_region_l ?_ | refine rl_nil ?_ | refine rl_step (by decide) (op_assign rfl ?_) | refine run_block ?_ | refine run_skip ?_ | fail))
  refine (run_loop (α := Nat × Mut) (fun x => [(0, va), (1, vb), (5, .int .i64 x.1)])
    (fun x w' => x.1 ≤ l.length ∧ Rn M w x.2 w' ∧ SlOf eI x.2 w' va l ∧ SlOf eI x.2 w' vb l) (fun x => l.length - x.1) (0, M) ⟨Nat.zero_le _, hr, hsa, hsb⟩ ?_).sub (by repeat (first | exact trivial | refine ⟨rfl, ?_⟩))
  clear hr hsa hsb
  rintro ⟨i, M1⟩ w1 ⟨hi, hr, hsa, hsb⟩ ih
  simp only at hi hr hsa hsb ih
  try dsimp only
  (repeat (first | refine run_seq ?_ | refine run_region_l ?_ | refine rl_step (by decide) (op_move rfl ?_) | fail))
  refine rl_step (by decide) (op_len uI rfl hsa ?_)
  (repeat (first | refine rl_nil ?_ | refine rl_step (by decide) (op_lss rfl rfl ?_) | fail))
  refine run_if rfl (fun hlt => ?_) (fun hlt => ?_)
  · have hlt' : i < l.length := by omega
    (repeat (first | refine run_seq ?_ | refine run_block ?_ | refine run_skip ?_ | fail))
    refine region_dr (M := M1) 8 1 [] mixed rfl (by kernel_rfl) (fun w1 hs1 => ?_)
    replace hsa := hsa.mono hs1.x
    replace hsb := hsb.mono hs1.x
    replace hr := hr.up hs1
    refine dr_cons (isv va) (by decide) (mono_isv _) (ob0 rfl fun M w' hs2 => ?_) ?_
    · exact opg (op_move rfl ⟨_, UpM.refl _ _, rfl⟩)
    refine dr_cons (isv (.int .i64 i)) (by decide) (mono_isv _) (ob0 rfl fun M w' hs2 => ?_) ?_
    · exact opg (op_move rfl ⟨_, UpM.refl _ _, rfl⟩)
    refine dr_cons (isPtr eI l[i]) (by decide) (mono_isPtr _ _) (ob2 rfl fun M w' hs2 v1 k1 v2 k2 => ?_) ?_
    · cases k1; cases k2; exact opg (op_indexAddr uI teI rfl rfl (hsa.mono hs2.x) (by omega) fun ad hn he => ⟨_, UpM.refl _ _, ad, rfl, he⟩)
    refine dr_cons (isv (.int .i64 l[i])) (by decide) (mono_isv _) (ob1 rfl fun M w' hs2 v1 k1 => ?_) ?_
    · obtain ⟨ad1, rfl, he1⟩ := k1; exact opg (op_load teI rfl he1 fun u hu => ⟨_, UpM.refl _ _, (eI_V.1 hu).1⟩)
    refine dr_cons (isv vb) (by decide) (mono_isv _) (ob0 rfl fun M w' hs2 => ?_) ?_
    · exact opg (op_move rfl ⟨_, UpM.refl _ _, rfl⟩)
    refine dr_cons (isv (.int .i64 i)) (by decide) (mono_isv _) (ob0 rfl fun M w' hs2 => ?_) ?_
    · exact opg (op_move rfl ⟨_, UpM.refl _ _, rfl⟩)
    refine dr_cons (isPtr eI l[i]) (by decide) (mono_isPtr _ _) (ob2 rfl fun M w' hs2 v1 k1 v2 k2 => ?_) ?_
    · cases k1; cases k2; exact opg (op_indexAddr uI teI rfl rfl (hsb.mono hs2.x) (by omega) fun ad hn he => ⟨_, UpM.refl _ _, ad, rfl, he⟩)
    refine dr_cons (isv (.int .i64 l[i])) (by decide) (mono_isv _) (ob1 rfl fun M w' hs2 v1 k1 => ?_) ?_
    · obtain ⟨ad1, rfl, he1⟩ := k1; exact opg (op_load teI rfl he1 fun u hu => ⟨_, UpM.refl _ _, (eI_V.1 hu).1⟩)
    refine dr_nil rfl (fun M3 w4 val hs2 hall => ?_)
    obtain ⟨h24, _, _, _, h20, _⟩ := hall
    have e24 : val 24 = _ := h24; have e20 : val 20 = _ := h20
    replace hsa := hsa.mono hs2.x
    replace hsb := hsb.mono hs2.x
    replace hr := hr.up hs2
    refine RT.sub (fr' := [(0, va), (1, vb), (5, .int .i64 i), (20, val 20), (24, val 24)]) ?_ (by repeat (first | exact trivial | refine ⟨rfl, ?_⟩))
    rw [e20, e24]
    refine rt_one (i := 8) (by kernel_rfl) rfl (by decide) (op_neq rfl rfl ?_)
    refine rt_nil (by kernel_rfl) ?_
    (repeat (first | refine run_seq ?_ | fail))
    refine run_if rfl (fun h => absurd rfl h) (fun _ => ?_)
    (repeat (first | refine run_region_l ?_ | refine rl_nil ?_ | refine rl_step (by decide) (op_move rfl ?_) | refine rl_step (by decide) (op_assign rfl ?_) | refine run_inBlock ?_ | refine run_skip ?_ | refine rl_step (by decide) (op_add rfl rfl (by omega) ?_) | fail))
    exact (ih (i + 1, M3) _ ⟨by simp only; omega, hr, hsa, hsb⟩ (by simp only; omega)).sub (by repeat (first | exact trivial | refine ⟨rfl, ?_⟩))
  · (repeat (first | refine run_seq ?_ | refine run_region_l ?_ | refine rl_nil ?_ | refine rl_step (by decide) (op_assign rfl ?_) | refine run_exit rfl ?_ | fail))
    refine run_ret1 Tryd.func73 rfl rfl ?_
    exact ⟨rfl, hr.bel⟩
set_option maxHeartbeats 2000000 in
theorem sameLines_c (M : Mut) (va vb : Value) (l : List Line) (w : World) (hm : MB M w) (hsa : SlOf eLine M w va l) (hsb : SlOf eLine M w vb l) :
    CallsV Tryd.prog 46 [va, vb] w (fun u w' => u = .bool true ∧ Below w.heap.size w w') := by
  have hr := Rn.refl hm
  have hl := pg_len hsa
  refine callsV_of_run Tryd.func46 rfl Tryd.ntmps46 (Nat.le_of_ble_eq_true rfl) ?_
  (repeat (first | refine run_seq ?_ | refine run_region_l ?_ | refine rl_nil ?_ | refine rl_step (by decide) (op_move rfl ?_) | refine rl_step (by decide) (op_assign rfl ?_) | fail))
  refine rl_step (by decide) (op_len uL rfl hsa ?_)
  (repeat (first | refine rl_step (by decide) (op_move rfl ?_) | fail))
  refine rl_step (by decide) (op_len uL rfl hsb ?_)
  (repeat (first | refine rl_nil ?_ | refine rl_step (by decide) (op_neq rfl rfl ?_) | fail))
  refine run_if rfl (fun h => absurd rfl h) (fun _ => ?_)
  (repeat (first | refine run_seq ?_ | refine run_region_l ?_ | refine rl_nil ?_ | refine rl_step (by decide) (op_assign rfl ?_) | refine run_block ?_ | refine run_skip ?_ | fail))
  refine (run_loop (α := Nat × Mut) (fun x => [(0, va), (1, vb), (5, .int .i64 x.1)])
    (fun x w' => x.1 ≤ l.length ∧ Rn M w x.2 w' ∧ SlOf eLine x.2 w' va l ∧ SlOf eLine x.2 w' vb l) (fun x => l.length - x.1) (0, M) ⟨Nat.zero_le _, hr, hsa, hsb⟩ ?_).sub (by repeat (first | exact trivial | refine ⟨rfl, ?_⟩))
  clear hr hsa hsb
  rintro ⟨i, M1⟩ w1 ⟨hi, hr, hsa, hsb⟩ ih
  simp only at hi hr hsa hsb ih
  try dsimp only
  (repeat (first | refine run_seq ?_ | refine run_region_l ?_ | refine rl_step (by decide) (op_move rfl ?_) | fail))
  refine rl_step (by decide) (op_len uL rfl hsa ?_)
  (repeat (first | refine rl_nil ?_ | refine rl_step (by decide) (op_lss rfl rfl ?_) | fail))
  refine run_if rfl (fun hlt => ?_) (fun hlt => ?_)
  · have hlt' : i < l.length := by omega
    (repeat (first | refine run_seq ?_ | refine run_block ?_ | refine run_skip ?_ | fail))
    refine region_dr (M := M1) 51 1 [] mixed rfl (by kernel_rfl) (fun w1 hs1 => ?_)
    replace hsa := hsa.mono hs1.x
    replace hsb := hsb.mono hs1.x
    replace hr := hr.up hs1
    refine dr_cons (isv va) (by decide) (mono_isv _) (ob0 rfl fun M w' hs2 => ?_) ?_
    · exact opg (op_move rfl ⟨_, UpM.refl _ _, rfl⟩)
    refine dr_cons (isv (.int .i64 i)) (by decide) (mono_isv _) (ob0 rfl fun M w' hs2 => ?_) ?_
    · exact opg (op_move rfl ⟨_, UpM.refl _ _, rfl⟩)
    refine dr_cons (isPtr eLine l[i]) (by decide) (mono_isPtr _ _) (ob2 rfl fun M w' hs2 v1 k1 v2 k2 => ?_) ?_
    · cases k1; cases k2; exact opg (op_indexAddr uL teL rfl rfl (hsa.mono hs2.x) (by omega) fun ad hn he => ⟨_, UpM.refl _ _, ad, rfl, he⟩)
    refine dr_cons (isPtr eI l[i].frm) (by decide) (mono_isPtr _ _) (ob1 rfl fun M w' hs2 v1 k1 => ?_) ?_
    · obtain ⟨ad1, rfl, he1⟩ := k1; exact opg (op_fieldAddr fdL0 rfl ⟨_, UpM.refl _ _, _, rfl, he1.line.1⟩)
    refine dr_cons (isv (.int .i64 l[i].frm)) (by decide) (mono_isv _) (ob1 rfl fun M w' hs2 v1 k1 => ?_) ?_
    · obtain ⟨ad1, rfl, he1⟩ := k1; exact opg (op_load teI rfl he1 fun u hu => ⟨_, UpM.refl _ _, (eI_V.1 hu).1⟩)
    refine dr_cons (isv vb) (by decide) (mono_isv _) (ob0 rfl fun M w' hs2 => ?_) ?_
    · exact opg (op_move rfl ⟨_, UpM.refl _ _, rfl⟩)
    refine dr_cons (isv (.int .i64 i)) (by decide) (mono_isv _) (ob0 rfl fun M w' hs2 => ?_) ?_
    · exact opg (op_move rfl ⟨_, UpM.refl _ _, rfl⟩)
    refine dr_cons (isPtr eLine l[i]) (by decide) (mono_isPtr _ _) (ob2 rfl fun M w' hs2 v1 k1 v2 k2 => ?_) ?_
    · cases k1; cases k2; exact opg (op_indexAddr uL teL rfl rfl (hsb.mono hs2.x) (by omega) fun ad hn he => ⟨_, UpM.refl _ _, ad, rfl, he⟩)
    refine dr_cons (isPtr eI l[i].frm) (by decide) (mono_isPtr _ _) (ob1 rfl fun M w' hs2 v1 k1 => ?_) ?_
    · obtain ⟨ad1, rfl, he1⟩ := k1; exact opg (op_fieldAddr fdL0 rfl ⟨_, UpM.refl _ _, _, rfl, he1.line.1⟩)
    refine dr_cons (isv (.int .i64 l[i].frm)) (by decide) (mono_isv _) (ob1 rfl fun M w' hs2 v1 k1 => ?_) ?_
    · obtain ⟨ad1, rfl, he1⟩ := k1; exact opg (op_load teI rfl he1 fun u hu => ⟨_, UpM.refl _ _, (eI_V.1 hu).1⟩)
    refine dr_cons (isv (.bool false)) (by decide) (mono_isv _) (ob2 rfl fun M w' hs2 v1 k1 v2 k2 => ?_) ?_
    · cases k1; cases k2; exact opg (op_neq rfl rfl ⟨_, UpM.refl _ _, by rw [decide_eq_false (fun h => h rfl)]; rfl⟩)
    refine dr_cons (isv (.bool false)) (by decide) (mono_isv _) (ob1 rfl fun M w' hs2 v1 k1 => ?_) ?_
    · cases k1; exact opg (op_move rfl ⟨_, UpM.refl _ _, rfl⟩)
    refine dr_cons (isv va) (by decide) (mono_isv _) (ob1 rfl fun M w' hs2 v1 k1 => ?_) ?_
    · cases k1; exact opg_yes rfl rfl (op_move rfl ⟨_, UpM.refl _ _, rfl⟩)
    refine dr_cons (isv (.int .i64 i)) (by decide) (mono_isv _) (ob1 rfl fun M w' hs2 v1 k1 => ?_) ?_
    · cases k1; exact opg_yes rfl rfl (op_move rfl ⟨_, UpM.refl _ _, rfl⟩)
    refine dr_cons (isPtr eLine l[i]) (by decide) (mono_isPtr _ _) (ob3 rfl fun M w' hs2 v1 k1 v2 k2 v3 k3 => ?_) ?_
    · cases k1; cases k2; cases k3; exact opg_yes rfl rfl (op_indexAddr uL teL rfl rfl (hsa.mono hs2.x) (by omega) fun ad hn he => ⟨_, UpM.refl _ _, ad, rfl, he⟩)
    refine dr_cons (isPtr eI l[i].til) (by decide) (mono_isPtr _ _) (ob2 rfl fun M w' hs2 v1 k1 v2 k2 => ?_) ?_
    · cases k1; obtain ⟨ad2, rfl, he2⟩ := k2; exact opg_yes rfl rfl (op_fieldAddr fdL1 rfl ⟨_, UpM.refl _ _, _, rfl, he2.line.2.1⟩)
    refine dr_cons (isv (.int .i64 l[i].til)) (by decide) (mono_isv _) (ob2 rfl fun M w' hs2 v1 k1 v2 k2 => ?_) ?_
    · cases k1; obtain ⟨ad2, rfl, he2⟩ := k2; exact opg_yes rfl rfl (op_load teI rfl he2 fun u hu => ⟨_, UpM.refl _ _, (eI_V.1 hu).1⟩)
    refine dr_cons (isv vb) (by decide) (mono_isv _) (ob1 rfl fun M w' hs2 v1 k1 => ?_) ?_
    · cases k1; exact opg_yes rfl rfl (op_move rfl ⟨_, UpM.refl _ _, rfl⟩)
    refine dr_cons (isv (.int .i64 i)) (by decide) (mono_isv _) (ob1 rfl fun M w' hs2 v1 k1 => ?_) ?_
    · cases k1; exact opg_yes rfl rfl (op_move rfl ⟨_, UpM.refl _ _, rfl⟩)
    refine dr_cons (isPtr eLine l[i]) (by decide) (mono_isPtr _ _) (ob3 rfl fun M w' hs2 v1 k1 v2 k2 v3 k3 => ?_) ?_
    · cases k1; cases k2; cases k3; exact opg_yes rfl rfl (op_indexAddr uL teL rfl rfl (hsb.mono hs2.x) (by omega) fun ad hn he => ⟨_, UpM.refl _ _, ad, rfl, he⟩)
    refine dr_cons (isPtr eI l[i].til) (by decide) (mono_isPtr _ _) (ob2 rfl fun M w' hs2 v1 k1 v2 k2 => ?_) ?_
    · cases k1; obtain ⟨ad2, rfl, he2⟩ := k2; exact opg_yes rfl rfl (op_fieldAddr fdL1 rfl ⟨_, UpM.refl _ _, _, rfl, he2.line.2.1⟩)
    refine dr_cons (isv (.int .i64 l[i].til)) (by decide) (mono_isv _) (ob2 rfl fun M w' hs2 v1 k1 v2 k2 => ?_) ?_
    · cases k1; obtain ⟨ad2, rfl, he2⟩ := k2; exact opg_yes rfl rfl (op_load teI rfl he2 fun u hu => ⟨_, UpM.refl _ _, (eI_V.1 hu).1⟩)
    refine dr_cons (isv (.bool false)) (by decide) (mono_isv _) (ob3 rfl fun M w' hs2 v1 k1 v2 k2 v3 k3 => ?_) ?_
    · cases k1; cases k2; cases k3; exact opg_yes rfl rfl (op_neq rfl rfl ⟨_, UpM.refl _ _, by rw [decide_eq_false (fun h => h rfl)]; rfl⟩)
    refine dr_cons (isv (.bool false)) (by decide) (mono_isv _) (ob2 rfl fun M w' hs2 v1 k1 v2 k2 => ?_) ?_
    · cases k1; cases k2; exact opg (op_pick_f rfl rfl ⟨_, UpM.refl _ _, rfl⟩)
    refine dr_cons (isv (.bool false)) (by decide) (mono_isv _) (ob1 rfl fun M w' hs2 v1 k1 => ?_) ?_
    · cases k1; exact opg (op_move rfl ⟨_, UpM.refl _ _, rfl⟩)
    refine dr_cons (isv va) (by decide) (mono_isv _) (ob1 rfl fun M w' hs2 v1 k1 => ?_) ?_
    · cases k1; exact opg_yes rfl rfl (op_move rfl ⟨_, UpM.refl _ _, rfl⟩)
    refine dr_cons (isv (.int .i64 i)) (by decide) (mono_isv _) (ob1 rfl fun M w' hs2 v1 k1 => ?_) ?_
    · cases k1; exact opg_yes rfl rfl (op_move rfl ⟨_, UpM.refl _ _, rfl⟩)
    refine dr_cons (isPtr eLine l[i]) (by decide) (mono_isPtr _ _) (ob3 rfl fun M w' hs2 v1 k1 v2 k2 v3 k3 => ?_) ?_
    · cases k1; cases k2; cases k3; exact opg_yes rfl rfl (op_indexAddr uL teL rfl rfl (hsa.mono hs2.x) (by omega) fun ad hn he => ⟨_, UpM.refl _ _, ad, rfl, he⟩)
    refine dr_cons (isPtr (eSl eI) l[i].gaps) (by decide) (mono_isPtr _ _) (ob2 rfl fun M w' hs2 v1 k1 v2 k2 => ?_) ?_
    · cases k1; obtain ⟨ad2, rfl, he2⟩ := k2; exact opg_yes rfl rfl (op_fieldAddr fdL2 rfl ⟨_, UpM.refl _ _, _, rfl, he2.line.2.2.1⟩)
    refine dr_cons (isSl eI l[i].gaps) (by decide) (mono_isSl _ _) (ob2 rfl fun M w' hs2 v1 k1 v2 k2 => ?_) ?_
    · cases k1; obtain ⟨ad2, rfl, he2⟩ := k2; exact opg_yes rfl rfl (op_load teSI rfl he2 fun u hu => ⟨_, UpM.refl _ _, eSl_V.1 hu⟩)
    refine dr_cons (isv vb) (by decide) (mono_isv _) (ob1 rfl fun M w' hs2 v1 k1 => ?_) ?_
    · cases k1; exact opg_yes rfl rfl (op_move rfl ⟨_, UpM.refl _ _, rfl⟩)
    refine dr_cons (isv (.int .i64 i)) (by decide) (mono_isv _) (ob1 rfl fun M w' hs2 v1 k1 => ?_) ?_
    · cases k1; exact opg_yes rfl rfl (op_move rfl ⟨_, UpM.refl _ _, rfl⟩)
    refine dr_cons (isPtr eLine l[i]) (by decide) (mono_isPtr _ _) (ob3 rfl fun M w' hs2 v1 k1 v2 k2 v3 k3 => ?_) ?_
    · cases k1; cases k2; cases k3; exact opg_yes rfl rfl (op_indexAddr uL teL rfl rfl (hsb.mono hs2.x) (by omega) fun ad hn he => ⟨_, UpM.refl _ _, ad, rfl, he⟩)
    refine dr_cons (isPtr (eSl eI) l[i].gaps) (by decide) (mono_isPtr _ _) (ob2 rfl fun M w' hs2 v1 k1 v2 k2 => ?_) ?_
    · cases k1; obtain ⟨ad2, rfl, he2⟩ := k2; exact opg_yes rfl rfl (op_fieldAddr fdL2 rfl ⟨_, UpM.refl _ _, _, rfl, he2.line.2.2.1⟩)
    refine dr_cons (isSl eI l[i].gaps) (by decide) (mono_isSl _ _) (ob2 rfl fun M w' hs2 v1 k1 v2 k2 => ?_) ?_
    · cases k1; obtain ⟨ad2, rfl, he2⟩ := k2; exact opg_yes rfl rfl (op_load teSI rfl he2 fun u hu => ⟨_, UpM.refl _ _, eSl_V.1 hu⟩)
    refine dr_cons (isv (.bool true)) (by decide) (mono_isv _) (ob3 rfl fun M w' hs2 v1 k1 v2 k2 v3 k3 => ?_) ?_
    · cases k1; exact opg_yes rfl rfl (op_call ent73 rfl (sameInts_c M _ _ _ _ (hs2.mb hr.mb) k2 k3) fun u w2 hu => ⟨_, UpM.of_below hu.2, hu.1⟩)
    refine dr_cons (isv (.bool false)) (by decide) (mono_isv _) (ob2 rfl fun M w' hs2 v1 k1 v2 k2 => ?_) ?_
    · cases k1; cases k2; exact opg_yes rfl rfl (op_not rfl ⟨_, UpM.refl _ _, rfl⟩)
    refine dr_cons (isv (.bool false)) (by decide) (mono_isv _) (ob2 rfl fun M w' hs2 v1 k1 v2 k2 => ?_) ?_
    · cases k1; cases k2; exact opg (op_pick_f rfl rfl ⟨_, UpM.refl _ _, rfl⟩)
    refine dr_cons (isv (.bool false)) (by decide) (mono_isv _) (ob1 rfl fun M w' hs2 v1 k1 => ?_) ?_
    · cases k1; exact opg (op_move rfl ⟨_, UpM.refl _ _, rfl⟩)
    refine dr_cons (isv va) (by decide) (mono_isv _) (ob1 rfl fun M w' hs2 v1 k1 => ?_) ?_
    · cases k1; exact opg_yes rfl rfl (op_move rfl ⟨_, UpM.refl _ _, rfl⟩)
    refine dr_cons (isv (.int .i64 i)) (by decide) (mono_isv _) (ob1 rfl fun M w' hs2 v1 k1 => ?_) ?_
    · cases k1; exact opg_yes rfl rfl (op_move rfl ⟨_, UpM.refl _ _, rfl⟩)
    refine dr_cons (isPtr eLine l[i]) (by decide) (mono_isPtr _ _) (ob3 rfl fun M w' hs2 v1 k1 v2 k2 v3 k3 => ?_) ?_
    · cases k1; cases k2; cases k3; exact opg_yes rfl rfl (op_indexAddr uL teL rfl rfl (hsa.mono hs2.x) (by omega) fun ad hn he => ⟨_, UpM.refl _ _, ad, rfl, he⟩)
    refine dr_cons (isPtr (eSl eI) l[i].notes) (by decide) (mono_isPtr _ _) (ob2 rfl fun M w' hs2 v1 k1 v2 k2 => ?_) ?_
    · cases k1; obtain ⟨ad2, rfl, he2⟩ := k2; exact opg_yes rfl rfl (op_fieldAddr fdL3 rfl ⟨_, UpM.refl _ _, _, rfl, he2.line.2.2.2⟩)
    refine dr_cons (isSl eI l[i].notes) (by decide) (mono_isSl _ _) (ob2 rfl fun M w' hs2 v1 k1 v2 k2 => ?_) ?_
    · cases k1; obtain ⟨ad2, rfl, he2⟩ := k2; exact opg_yes rfl rfl (op_load teSI rfl he2 fun u hu => ⟨_, UpM.refl _ _, eSl_V.1 hu⟩)
    refine dr_cons (isv vb) (by decide) (mono_isv _) (ob1 rfl fun M w' hs2 v1 k1 => ?_) ?_
    · cases k1; exact opg_yes rfl rfl (op_move rfl ⟨_, UpM.refl _ _, rfl⟩)
    refine dr_cons (isv (.int .i64 i)) (by decide) (mono_isv _) (ob1 rfl fun M w' hs2 v1 k1 => ?_) ?_
    · cases k1; exact opg_yes rfl rfl (op_move rfl ⟨_, UpM.refl _ _, rfl⟩)
    refine dr_cons (isPtr eLine l[i]) (by decide) (mono_isPtr _ _) (ob3 rfl fun M w' hs2 v1 k1 v2 k2 v3 k3 => ?_) ?_
    · cases k1; cases k2; cases k3; exact opg_yes rfl rfl (op_indexAddr uL teL rfl rfl (hsb.mono hs2.x) (by omega) fun ad hn he => ⟨_, UpM.refl _ _, ad, rfl, he⟩)
    refine dr_cons (isPtr (eSl eI) l[i].notes) (by decide) (mono_isPtr _ _) (ob2 rfl fun M w' hs2 v1 k1 v2 k2 => ?_) ?_
    · cases k1; obtain ⟨ad2, rfl, he2⟩ := k2; exact opg_yes rfl rfl (op_fieldAddr fdL3 rfl ⟨_, UpM.refl _ _, _, rfl, he2.line.2.2.2⟩)
    refine dr_cons (isSl eI l[i].notes) (by decide) (mono_isSl _ _) (ob2 rfl fun M w' hs2 v1 k1 v2 k2 => ?_) ?_
    · cases k1; obtain ⟨ad2, rfl, he2⟩ := k2; exact opg_yes rfl rfl (op_load teSI rfl he2 fun u hu => ⟨_, UpM.refl _ _, eSl_V.1 hu⟩)
    refine dr_cons (isv (.bool true)) (by decide) (mono_isv _) (ob3 rfl fun M w' hs2 v1 k1 v2 k2 v3 k3 => ?_) ?_
    · cases k1; exact opg_yes rfl rfl (op_call ent73 rfl (sameInts_c M _ _ _ _ (hs2.mb hr.mb) k2 k3) fun u w2 hu => ⟨_, UpM.of_below hu.2, hu.1⟩)
    refine dr_cons (isv (.bool false)) (by decide) (mono_isv _) (ob2 rfl fun M w' hs2 v1 k1 v2 k2 => ?_) ?_
    · cases k1; cases k2; exact opg_yes rfl rfl (op_not rfl ⟨_, UpM.refl _ _, rfl⟩)
    refine dr_nil rfl (fun M3 w4 val hs2 hall => ?_)
    obtain ⟨h67, _, _, _, _, _, _, _, _, _, _, _, h55, _⟩ := hall
    have e67 : val 67 = _ := h67; have e55 : val 55 = _ := h55
    replace hsa := hsa.mono hs2.x
    replace hsb := hsb.mono hs2.x
    replace hr := hr.up hs2
    refine RT.sub (fr' := [(0, va), (1, vb), (5, .int .i64 i), (55, val 55), (67, val 67)]) ?_ (by repeat (first | exact trivial | refine ⟨rfl, ?_⟩))
    rw [e55, e67]
    refine rt_one (i := 51) (by kernel_rfl) rfl (by decide) (op_pick_f rfl rfl ?_)
    refine rt_nil (by kernel_rfl) ?_
    (repeat (first | refine run_region_l ?_ | refine rl_nil ?_ | refine rl_step (by decide) (op_move rfl ?_) | refine rl_step (by decide) (op_assign rfl ?_) | refine run_inBlock ?_ | refine run_skip ?_ | refine run_false rfl ?_ | refine rl_step (by decide) (op_add rfl rfl (by omega) ?_) | fail))
    exact (ih (i + 1, M3) _ ⟨by simp only; omega, hr, hsa, hsb⟩ (by simp only; omega)).sub (by repeat (first | exact trivial | refine ⟨rfl, ?_⟩))
  · (repeat (first | refine run_seq ?_ | refine run_region_l ?_ | refine rl_nil ?_ | refine rl_step (by decide) (op_assign rfl ?_) | refine run_exit rfl ?_ | fail))
    refine run_ret1 Tryd.func46 rfl rfl ?_
    exact ⟨rfl, hr.bel⟩
end Go.Proofs.YtocoinkhbjlbhaaDoor
end

section
namespace Go.Proofs.YtocoinkhbjlbhaaDoor
def notesOf (notes : List (List Line)) (body : List Line) : List Line := (refs body).flatMap (noteAt notes)
theorem notesOf_len (notes : List (List Line)) (body : List Line) : (notesOf notes body).length = sumR notes body := rfl
theorem notesOf_append (notes : List (List Line)) (a b : List Line) : notesOf notes (a ++ b) = notesOf notes a ++ notesOf notes b := by
  unfold notesOf refs
  rw [List.flatMap_append, List.flatMap_append]
theorem notesOf_cons (notes : List (List Line)) (x : Line) (b : List Line) : notesOf notes (x :: b) = x.notes.flatMap (noteAt notes) ++ notesOf notes b := by
  unfold notesOf refs
  rw [List.flatMap_cons, List.flatMap_append]
theorem fill_inv (h : Int) (notes : List (List Line)) : ∀ (body : List Line) (n : Int) (q : List Line) (s : Int), 0 ≤ n → 0 ≤ s → s ≤ q.length → n + s + min s 1 ≤ h → (s = 0 → q.length = 0) →
    ∃ (k : Nat) (n' s' : Int) (q' : List Line), fillM h notes body n q s = (n', q', s') ∧ n' = n + k ∧ k ≤ body.length ∧ q' = q ++ notesOf notes (body.take k) ∧ s ≤ s' ∧ s' ≤ q'.length ∧ n' + s' + min s' 1 ≤ h ∧ (s' = 0 → q'.length = 0) ∧
      (k < body.length → ∃ x, body[k]? = some x ∧ fitsB h x n' s' q'.length = false)
  | [], n, q, s, h0, h1, h2, h3, h4 => ⟨0, n, s, q, rfl, by simp, by simp, by simp [notesOf, refs], by omega, h2, h3, h4, by simp⟩
  | x :: r, n, q, s, h0, h1, h2, h3, h4 => by
    rw [fillM]
    split
    · rename_i hb
      obtain ⟨f1, f2⟩ := fits_bd hb h1 (by omega)
      have hlen : (q ++ x.notes.flatMap (noteAt notes)).length = q.length + (x.notes.flatMap (noteAt notes)).length := List.length_append
      have hz : x.notes = [] → (x.notes.flatMap (noteAt notes)).length = 0 := fun hx => by rw [hx]; rfl
      have hg := growM_bd h (n + 1) s (q ++ x.notes.flatMap (noteAt notes)).length h1 (by omega) (by omega) (fun a b => by
        rcases f2 with hx | hx
        · have := hz hx
          have := h4 a
          omega
        · omega)
      obtain ⟨k, n', s', q', e, e1, e2, e3, e4, e5, e6, e7, e8⟩ := fill_inv h notes r (n + 1) _ _ (by omega) (by omega) hg.2.1 hg.2.2.1 (fun a => by have := hg.2.2.2 a; omega)
      refine ⟨k + 1, n', s', q', e, by omega, by simp only [List.length_cons]; omega, ?_, by omega, e5, e6, e7, fun hk => ?_⟩
      · rw [e3, List.take_succ_cons, notesOf_cons, List.append_assoc]
      · rw [List.getElem?_cons_succ]
        exact e8 (by simp only [List.length_cons] at hk; omega)
    · rename_i hb
      exact ⟨0, n, s, q, rfl, by simp, by simp, by simp [notesOf, refs], by omega, h2, h3, h4, fun _ => ⟨x, rfl, by simpa using hb⟩⟩
theorem set_step (h : Int) (hh : 4 ≤ h) (notes : List (List Line)) (f : Nat) (body q : List Line) (hne : 0 < body.length + q.length) :
    ∃ (k m : Nat) (q' : List Line), q' = q ++ notesOf notes (body.take k) ∧ k ≤ body.length ∧ m ≤ q'.length ∧ (k : Int) + m + min (m : Int) 1 ≤ h ∧ 0 < k + m ∧ (m = 0 → q'.length = 0) ∧
      setM h notes (f + 1) body q = ⟨0, 0, 0, 0, body.take k, q'.take m⟩ :: setM h notes f (body.drop k) (q'.drop m) ∧
      min q.length (h.toNat - 1) ≤ m ∧ (k < body.length → ∃ x, body[k]? = some x ∧ fitsB h x k m q'.length = false) := by
  obtain ⟨k, n', s', q', e, e1, e2, e3, e4, e5, e6, e7, e8⟩ := fill_inv h notes body 0 q (min q.length (h - 1)) (by omega) (by omega) (by omega) (by omega) (by omega)
  have hpos : 0 < k + s'.toNat := by
    rcases Nat.eq_zero_or_pos (k + s'.toNat) with hz | hz
    · have hk : k = 0 := by omega
      have hs : s' = 0 := by omega
      have hq := e7 hs
      subst hk
      have hq0 : q.length = 0 := by rw [e3] at hq; simp [notesOf, refs] at hq; simp [hq]
      obtain ⟨x, hx, hf⟩ := e8 (by omega)
      rw [show n' = 0 by omega, hs, hq, show ((0 : Nat) : Int) = 0 from rfl, fits_first x hh] at hf
      cases hf
    · exact hz
  have hcs : (s'.toNat : Int) = s' := by omega
  refine ⟨k, s'.toNat, q', e3, e2, by omega, by omega, hpos, fun hz => e7 (by omega), ?_, by omega, fun hk => ?_⟩
  · have hne' : (body.isEmpty && q.isEmpty) = false := by
      cases body with
      | nil => cases q with
        | nil => simp at hne
        | cons => rfl
      | cons => rfl
    rw [setM, hne', e]
    simp only [Bool.false_eq_true, if_false]
    rw [show n'.toNat = k by omega]
  · obtain ⟨x, hx, hf⟩ := e8 hk
    refine ⟨x, hx, ?_⟩
    rw [hcs, show (k : Int) = n' by omega]
    exact hf
theorem set_nil (h : Int) (notes : List (List Line)) (f : Nat) : setM h notes f [] [] = [] := by cases f <;> rfl
theorem set_order (h : Int) (hh : 4 ≤ h) (notes : List (List Line)) : ∀ (f : Nat) (body q : List Line), body.length + q.length + sumR notes body < f →
    (setM h notes f body q).flatMap (·.body) = body ∧ (setM h notes f body q).flatMap (·.notes) = q ++ notesOf notes body ∧ (setM h notes f body q).length ≤ body.length + q.length + sumR notes body ∧ ∀ p ∈ setM h notes f body q, 1 ≤ usedM p ∧ usedM p ≤ h
  | 0, _, _, hf => by omega
  | f + 1, body, q, hf => by
    rcases Nat.eq_zero_or_pos (body.length + q.length) with hz | hne
    · have h1 : body = [] := List.eq_nil_of_length_eq_zero (by omega)
      have h2 : q = [] := List.eq_nil_of_length_eq_zero (by omega)
      subst h1 h2
      rw [set_nil]
      exact ⟨rfl, by simp [notesOf, refs], by simp, by simp⟩
    · obtain ⟨k, m, q', e1, e2, e3, e4, e5, e6, e7, _, _⟩ := set_step h hh notes f body q hne
      have hb : body = body.take k ++ body.drop k := (List.take_append_drop k body).symm
      have hsum : sumR notes body = sumR notes (body.take k) + sumR notes (body.drop k) := by
        rw [← notesOf_len, ← notesOf_len, ← notesOf_len, ← List.length_append, ← notesOf_append, ← hb]
      have hq' : q'.length = q.length + sumR notes (body.take k) := by rw [e1, List.length_append, notesOf_len]
      have hd1 : (body.drop k).length = body.length - k := List.length_drop
      have hd2 : (q'.drop m).length = q'.length - m := List.length_drop
      obtain ⟨i1, i2, i3, i4⟩ := set_order h hh notes f (body.drop k) (q'.drop m) (by omega)
      rw [e7]
      refine ⟨?_, ?_, by simp only [List.length_cons]; omega, fun p hp => ?_⟩
      · rw [List.flatMap_cons, i1]
        exact hb.symm
      · rw [List.flatMap_cons, i2]
        simp only
        rw [← List.append_assoc, List.take_append_drop, e1, List.append_assoc, ← notesOf_append, ← hb]
      · rcases List.mem_cons.1 hp with rfl | hp
        · unfold usedM
          simp only [List.length_take]
          omega
        · exact i4 p hp
end Go.Proofs.YtocoinkhbjlbhaaDoor
end

section
namespace Go.Proofs.YtocoinkhbjlbhaaDoor
open Go Go.RowKit
theorem p_len {M : Mut} {w : World} {v : Value} {l : List Pg} (h : SlOf ePg M w v l) : (l.length : Int) ≤ 2199023255552 := by
  have := h.bytes
  have e : ePg.by_ = 80 := rfl
  rw [e] at this
  omega
end Go.Proofs.YtocoinkhbjlbhaaDoor
end

section
namespace Go.Proofs.YtocoinkhbjlbhaaDoor
end Go.Proofs.YtocoinkhbjlbhaaDoor
end

section
namespace Go.Proofs.YtocoinkhbjlbhaaDoor
open Go Go.RowKit
end Go.Proofs.YtocoinkhbjlbhaaDoor
end

section
namespace Go.Proofs.YtocoinkhbjlbhaaDoor
end Go.Proofs.YtocoinkhbjlbhaaDoor
end

section
namespace Go.Proofs.YtocoinkhbjlbhaaDoor
open Go Go.RowKit
section
variable {P : Program} {N : Nat} {fr : Fr} {w : World} {Ψ : Value → World → Prop} {d : Option Tmp} {ty : TypeId} {pos : String} {aft : Array Edge} {g : Option (Nat × Bool)}
end
end Go.Proofs.YtocoinkhbjlbhaaDoor
end

section
namespace Go.Proofs.YtocoinkhbjlbhaaDoor
end Go.Proofs.YtocoinkhbjlbhaaDoor
end

section
namespace Go.Proofs.YtocoinkhbjlbhaaDoor
end Go.Proofs.YtocoinkhbjlbhaaDoor
end

section
namespace Go.Proofs.YtocoinkhbjlbhaaDoor
open Go Go.RowKit
theorem run_equalIn_int (d : Nat) (a : Int) (w : World) : (Go.Op.equalIn (d + 1) 3 (.int .i64 a) (.int .i64 a)).run Tryd.prog w = .ok true w := by
  have h : Tryd.prog.underlying 3 = some (.int .i64) := Tryd.underlying3
  simp [Go.Op.equalIn, run_underlying h]
theorem run_part0 (x y : Value) (w : World) : (part 3 #[x, y] 0).run Tryd.prog w = .ok x w := by
  simp [part, tdI.run_isAgg (w := w)]
theorem run_part1 (x y : Value) (w : World) : (part 3 #[x, y] 1).run Tryd.prog w = .ok y w := by
  simp [part, tdI.run_isAgg (w := w)]
theorem run_equalIn_label (d : Nat) (a b : Int) (w : World) : (Go.Op.equalIn (d + 2) 55 (.agg #[.int .i64 a, .int .i64 b]) (.agg #[.int .i64 a, .int .i64 b])).run Tryd.prog w = .ok true w := by
  have h := Tryd.underlying55
  rw [Go.Op.equalIn]
  simp [run_underlying h, run_part0, run_part1, run_equalIn_int]
theorem run_neq_label (a b : Int) (w : World) : (Go.binOp .neq 55 (.agg #[.int .i64 a, .int .i64 b]) (.agg #[.int .i64 a, .int .i64 b])).run Tryd.prog w = .ok (.bool false) w := by
  have h : (Go.Op.equalIn Go.Op.maxDepth 55 (.agg #[.int .i64 a, .int .i64 b]) (.agg #[.int .i64 a, .int .i64 b])).run Tryd.prog w = .ok true w := run_equalIn_label 9998 a b w
  simp [Go.binOp, Go.Op.equal, h]
section
variable {N : Nat} {fr : Fr} {w : World} {Ψ : Value → World → Prop} {d : Option Tmp} {ty : TypeId} {pos : String} {aft : Array Edge} {g : Option (Nat × Bool)}
theorem op_neqLabel {x y : Operand} {a b : Int} {u : TypeId} (hx : opv fr x = some (.agg #[.int .i64 a, .int .i64 b])) (hy : opv fr y = some (.agg #[.int .i64 a, .int .i64 b])) (h : Ψ (.bool false) w) :
    OP Tryd.prog N ⟨d, .binOp .neq 55 x y u, ty, pos, aft, g⟩ fr w Ψ :=
  OP.val (v := .bool false) (w' := w) (fun ac ha => by
    simp [execOp, ha.eval hx, ha.eval hy, eqGuard, run_neq_label]) h
end
theorem teLb : TE Tryd.prog 55 eLb := ⟨_, rfl, tdLb⟩
theorem Elem.label {M : Mut} {w : World} {ad : Addr} {p : Pg} (h : Elem ePg M w ad p) : Elem eLb M w (ad.add 0) (p.num, p.suf) := by
  obtain ⟨cs, hR, hc⟩ := h
  obtain ⟨b, n, rfl, ⟨h1, h2, h5, h6⟩, h3, h4⟩ := ePg_R.1 hR
  refine ⟨[.int .i64 p.num, .int .i64 p.suf], ⟨_, _, rfl, ⟨rfl, fun _ => h1, fun e => by cases e⟩, ⟨rfl, fun _ => h2, fun e => by cases e⟩⟩, fun j c hj => ?_⟩
  rw [add_add']
  refine hc _ _ ?_
  match j, hj with
  | 0, hj => simpa using hj
  | 1, hj => simpa using hj
  | j + 2, hj => simp at hj
theorem eLb_V {M : Mut} {w : World} {v : Value} {x : Int × Int} (h : eLb.V M w v x) : v = .agg #[.int .i64 x.1, .int .i64 x.2] := by
  obtain ⟨cs, ⟨a, b, rfl, ⟨rfl, _⟩, ⟨rfl, _⟩⟩, rfl⟩ := h
  rfl
set_option maxHeartbeats 4000000 in
theorem samePages_c (M : Mut) (va vb : Value) (ps : List Pg) (w : World) (hm : MB M w) (hsa : SlOf ePg M w va ps) (hsb : SlOf ePg M w vb ps) :
    CallsV Tryd.prog 24 [va, vb] w (fun u w' => u = .bool true ∧ Below w.heap.size w w') := by
  have hr := Rn.refl hm
  have hl := p_len hsa
  refine callsV_of_run Tryd.func24 rfl Tryd.ntmps24 (Nat.le_of_ble_eq_true rfl) ?_
  (repeat (first | refine run_seq ?_ | refine run_region_l ?_ | refine rl_nil ?_ | refine rl_step (by decide) (op_move rfl ?_) | refine rl_step (by decide) (op_assign rfl ?_) | fail))
  refine rl_step (by decide) (op_len uP rfl hsa ?_)
  (repeat (first | refine rl_step (by decide) (op_move rfl ?_) | fail))
  refine rl_step (by decide) (op_len uP rfl hsb ?_)
  (repeat (first | refine rl_nil ?_ | refine rl_step (by decide) (op_neq rfl rfl ?_) | fail))
  refine run_if rfl (fun h => absurd rfl h) (fun _ => ?_)
  (repeat (first | refine run_seq ?_ | refine run_region_l ?_ | refine rl_nil ?_ | refine rl_step (by decide) (op_assign rfl ?_) | refine run_block ?_ | refine run_skip ?_ | fail))
  refine (run_loop (α := Nat × Mut) (fun x => [(0, va), (1, vb), (5, .int .i64 x.1)])
    (fun x w' => x.1 ≤ ps.length ∧ Rn M w x.2 w' ∧ SlOf ePg x.2 w' va ps ∧ SlOf ePg x.2 w' vb ps) (fun x => ps.length - x.1) (0, M) ⟨Nat.zero_le _, hr, hsa, hsb⟩ ?_).sub (by repeat (first | exact trivial | refine ⟨rfl, ?_⟩))
  clear hr hsa hsb
  rintro ⟨i, M1⟩ w1 ⟨hi, hr, hsa, hsb⟩ ih
  simp only at hi hr hsa hsb ih
  try dsimp only
  (repeat (first | refine run_seq ?_ | refine run_region_l ?_ | refine rl_step (by decide) (op_move rfl ?_) | fail))
  refine rl_step (by decide) (op_len uP rfl hsa ?_)
  (repeat (first | refine rl_nil ?_ | refine rl_step (by decide) (op_lss rfl rfl ?_) | fail))
  refine run_if rfl (fun hlt => ?_) (fun hlt => ?_)
  · have hlt' : i < ps.length := by omega
    (repeat (first | refine run_seq ?_ | refine run_block ?_ | refine run_skip ?_ | fail))
    refine region_dr (M := M1) 64 1 [] mixed rfl (by kernel_rfl) (fun w1 hs1 => ?_)
    replace hsa := hsa.mono hs1.x
    replace hsb := hsb.mono hs1.x
    replace hr := hr.up hs1
    refine dr_cons (isv va) (by decide) (mono_isv _) (ob0 rfl fun M w' hs2 => ?_) ?_
    · exact opg (op_move rfl ⟨_, UpM.refl _ _, rfl⟩)
    refine dr_cons (isv (.int .i64 i)) (by decide) (mono_isv _) (ob0 rfl fun M w' hs2 => ?_) ?_
    · exact opg (op_move rfl ⟨_, UpM.refl _ _, rfl⟩)
    refine dr_cons (isPtr ePg ps[i]) (by decide) (mono_isPtr _ _) (ob2 rfl fun M w' hs2 v1 k1 v2 k2 => ?_) ?_
    · cases k1; cases k2; exact opg (op_indexAddr uP teP rfl rfl (hsa.mono hs2.x) (by omega) fun ad hn he => ⟨_, UpM.refl _ _, ad, rfl, he⟩)
    refine dr_cons (isPtr eLb ((ps[i].num, ps[i].suf))) (by decide) (mono_isPtr _ _) (ob1 rfl fun M w' hs2 v1 k1 => ?_) ?_
    · obtain ⟨ad1, rfl, he1⟩ := k1; exact opg (op_fieldAddr fdP0 rfl ⟨_, UpM.refl _ _, _, rfl, he1.label⟩)
    refine dr_cons (isv ((.agg #[.int .i64 ps[i].num, .int .i64 ps[i].suf]))) (by decide) (mono_isv _) (ob1 rfl fun M w' hs2 v1 k1 => ?_) ?_
    · obtain ⟨ad1, rfl, he1⟩ := k1; exact opg (op_load teLb rfl he1 fun u hu => ⟨_, UpM.refl _ _, eLb_V hu⟩)
    refine dr_cons (isv vb) (by decide) (mono_isv _) (ob0 rfl fun M w' hs2 => ?_) ?_
    · exact opg (op_move rfl ⟨_, UpM.refl _ _, rfl⟩)
    refine dr_cons (isv (.int .i64 i)) (by decide) (mono_isv _) (ob0 rfl fun M w' hs2 => ?_) ?_
    · exact opg (op_move rfl ⟨_, UpM.refl _ _, rfl⟩)
    refine dr_cons (isPtr ePg ps[i]) (by decide) (mono_isPtr _ _) (ob2 rfl fun M w' hs2 v1 k1 v2 k2 => ?_) ?_
    · cases k1; cases k2; exact opg (op_indexAddr uP teP rfl rfl (hsb.mono hs2.x) (by omega) fun ad hn he => ⟨_, UpM.refl _ _, ad, rfl, he⟩)
    refine dr_cons (isPtr eLb ((ps[i].num, ps[i].suf))) (by decide) (mono_isPtr _ _) (ob1 rfl fun M w' hs2 v1 k1 => ?_) ?_
    · obtain ⟨ad1, rfl, he1⟩ := k1; exact opg (op_fieldAddr fdP0 rfl ⟨_, UpM.refl _ _, _, rfl, he1.label⟩)
    refine dr_cons (isv ((.agg #[.int .i64 ps[i].num, .int .i64 ps[i].suf]))) (by decide) (mono_isv _) (ob1 rfl fun M w' hs2 v1 k1 => ?_) ?_
    · obtain ⟨ad1, rfl, he1⟩ := k1; exact opg (op_load teLb rfl he1 fun u hu => ⟨_, UpM.refl _ _, eLb_V hu⟩)
    refine dr_cons (isv (.bool false)) (by decide) (mono_isv _) (ob2 rfl fun M w' hs2 v1 k1 v2 k2 => ?_) ?_
    · cases k1; cases k2; exact opg (op_neqLabel rfl rfl ⟨_, UpM.refl _ _, rfl⟩)
    refine dr_cons (isv (.bool false)) (by decide) (mono_isv _) (ob1 rfl fun M w' hs2 v1 k1 => ?_) ?_
    · cases k1; exact opg (op_move rfl ⟨_, UpM.refl _ _, rfl⟩)
    refine dr_cons (isv va) (by decide) (mono_isv _) (ob1 rfl fun M w' hs2 v1 k1 => ?_) ?_
    · cases k1; exact opg_yes rfl rfl (op_move rfl ⟨_, UpM.refl _ _, rfl⟩)
    refine dr_cons (isv (.int .i64 i)) (by decide) (mono_isv _) (ob1 rfl fun M w' hs2 v1 k1 => ?_) ?_
    · cases k1; exact opg_yes rfl rfl (op_move rfl ⟨_, UpM.refl _ _, rfl⟩)
    refine dr_cons (isPtr ePg ps[i]) (by decide) (mono_isPtr _ _) (ob3 rfl fun M w' hs2 v1 k1 v2 k2 v3 k3 => ?_) ?_
    · cases k1; cases k2; cases k3; exact opg_yes rfl rfl (op_indexAddr uP teP rfl rfl (hsa.mono hs2.x) (by omega) fun ad hn he => ⟨_, UpM.refl _ _, ad, rfl, he⟩)
    refine dr_cons (isPtr eI ps[i].entry) (by decide) (mono_isPtr _ _) (ob2 rfl fun M w' hs2 v1 k1 v2 k2 => ?_) ?_
    · cases k1; obtain ⟨ad2, rfl, he2⟩ := k2; exact opg_yes rfl rfl (op_fieldAddr fdP1 rfl ⟨_, UpM.refl _ _, _, rfl, he2.pg.1.2.2.1⟩)
    refine dr_cons (isv (.int .i64 ps[i].entry)) (by decide) (mono_isv _) (ob2 rfl fun M w' hs2 v1 k1 v2 k2 => ?_) ?_
    · cases k1; obtain ⟨ad2, rfl, he2⟩ := k2; exact opg_yes rfl rfl (op_load teI rfl he2 fun u hu => ⟨_, UpM.refl _ _, (eI_V.1 hu).1⟩)
    refine dr_cons (isv vb) (by decide) (mono_isv _) (ob1 rfl fun M w' hs2 v1 k1 => ?_) ?_
    · cases k1; exact opg_yes rfl rfl (op_move rfl ⟨_, UpM.refl _ _, rfl⟩)
    refine dr_cons (isv (.int .i64 i)) (by decide) (mono_isv _) (ob1 rfl fun M w' hs2 v1 k1 => ?_) ?_
    · cases k1; exact opg_yes rfl rfl (op_move rfl ⟨_, UpM.refl _ _, rfl⟩)
    refine dr_cons (isPtr ePg ps[i]) (by decide) (mono_isPtr _ _) (ob3 rfl fun M w' hs2 v1 k1 v2 k2 v3 k3 => ?_) ?_
    · cases k1; cases k2; cases k3; exact opg_yes rfl rfl (op_indexAddr uP teP rfl rfl (hsb.mono hs2.x) (by omega) fun ad hn he => ⟨_, UpM.refl _ _, ad, rfl, he⟩)
    refine dr_cons (isPtr eI ps[i].entry) (by decide) (mono_isPtr _ _) (ob2 rfl fun M w' hs2 v1 k1 v2 k2 => ?_) ?_
    · cases k1; obtain ⟨ad2, rfl, he2⟩ := k2; exact opg_yes rfl rfl (op_fieldAddr fdP1 rfl ⟨_, UpM.refl _ _, _, rfl, he2.pg.1.2.2.1⟩)
    refine dr_cons (isv (.int .i64 ps[i].entry)) (by decide) (mono_isv _) (ob2 rfl fun M w' hs2 v1 k1 v2 k2 => ?_) ?_
    · cases k1; obtain ⟨ad2, rfl, he2⟩ := k2; exact opg_yes rfl rfl (op_load teI rfl he2 fun u hu => ⟨_, UpM.refl _ _, (eI_V.1 hu).1⟩)
    refine dr_cons (isv (.bool false)) (by decide) (mono_isv _) (ob3 rfl fun M w' hs2 v1 k1 v2 k2 v3 k3 => ?_) ?_
    · cases k1; cases k2; cases k3; exact opg_yes rfl rfl (op_neq rfl rfl ⟨_, UpM.refl _ _, by rw [decide_eq_false (fun h => h rfl)]; rfl⟩)
    refine dr_cons (isv (.bool false)) (by decide) (mono_isv _) (ob2 rfl fun M w' hs2 v1 k1 v2 k2 => ?_) ?_
    · cases k1; cases k2; exact opg (op_pick_f rfl rfl ⟨_, UpM.refl _ _, rfl⟩)
    refine dr_cons (isv (.bool false)) (by decide) (mono_isv _) (ob1 rfl fun M w' hs2 v1 k1 => ?_) ?_
    · cases k1; exact opg (op_move rfl ⟨_, UpM.refl _ _, rfl⟩)
    refine dr_cons (isv va) (by decide) (mono_isv _) (ob1 rfl fun M w' hs2 v1 k1 => ?_) ?_
    · cases k1; exact opg_yes rfl rfl (op_move rfl ⟨_, UpM.refl _ _, rfl⟩)
    refine dr_cons (isv (.int .i64 i)) (by decide) (mono_isv _) (ob1 rfl fun M w' hs2 v1 k1 => ?_) ?_
    · cases k1; exact opg_yes rfl rfl (op_move rfl ⟨_, UpM.refl _ _, rfl⟩)
    refine dr_cons (isPtr ePg ps[i]) (by decide) (mono_isPtr _ _) (ob3 rfl fun M w' hs2 v1 k1 v2 k2 v3 k3 => ?_) ?_
    · cases k1; cases k2; cases k3; exact opg_yes rfl rfl (op_indexAddr uP teP rfl rfl (hsa.mono hs2.x) (by omega) fun ad hn he => ⟨_, UpM.refl _ _, ad, rfl, he⟩)
    refine dr_cons (isPtr eI ps[i].version) (by decide) (mono_isPtr _ _) (ob2 rfl fun M w' hs2 v1 k1 v2 k2 => ?_) ?_
    · cases k1; obtain ⟨ad2, rfl, he2⟩ := k2; exact opg_yes rfl rfl (op_fieldAddr fdP2 rfl ⟨_, UpM.refl _ _, _, rfl, he2.pg.1.2.2.2⟩)
    refine dr_cons (isv (.int .i64 ps[i].version)) (by decide) (mono_isv _) (ob2 rfl fun M w' hs2 v1 k1 v2 k2 => ?_) ?_
    · cases k1; obtain ⟨ad2, rfl, he2⟩ := k2; exact opg_yes rfl rfl (op_load teI rfl he2 fun u hu => ⟨_, UpM.refl _ _, (eI_V.1 hu).1⟩)
    refine dr_cons (isv vb) (by decide) (mono_isv _) (ob1 rfl fun M w' hs2 v1 k1 => ?_) ?_
    · cases k1; exact opg_yes rfl rfl (op_move rfl ⟨_, UpM.refl _ _, rfl⟩)
    refine dr_cons (isv (.int .i64 i)) (by decide) (mono_isv _) (ob1 rfl fun M w' hs2 v1 k1 => ?_) ?_
    · cases k1; exact opg_yes rfl rfl (op_move rfl ⟨_, UpM.refl _ _, rfl⟩)
    refine dr_cons (isPtr ePg ps[i]) (by decide) (mono_isPtr _ _) (ob3 rfl fun M w' hs2 v1 k1 v2 k2 v3 k3 => ?_) ?_
    · cases k1; cases k2; cases k3; exact opg_yes rfl rfl (op_indexAddr uP teP rfl rfl (hsb.mono hs2.x) (by omega) fun ad hn he => ⟨_, UpM.refl _ _, ad, rfl, he⟩)
    refine dr_cons (isPtr eI ps[i].version) (by decide) (mono_isPtr _ _) (ob2 rfl fun M w' hs2 v1 k1 v2 k2 => ?_) ?_
    · cases k1; obtain ⟨ad2, rfl, he2⟩ := k2; exact opg_yes rfl rfl (op_fieldAddr fdP2 rfl ⟨_, UpM.refl _ _, _, rfl, he2.pg.1.2.2.2⟩)
    refine dr_cons (isv (.int .i64 ps[i].version)) (by decide) (mono_isv _) (ob2 rfl fun M w' hs2 v1 k1 v2 k2 => ?_) ?_
    · cases k1; obtain ⟨ad2, rfl, he2⟩ := k2; exact opg_yes rfl rfl (op_load teI rfl he2 fun u hu => ⟨_, UpM.refl _ _, (eI_V.1 hu).1⟩)
    refine dr_cons (isv (.bool false)) (by decide) (mono_isv _) (ob3 rfl fun M w' hs2 v1 k1 v2 k2 v3 k3 => ?_) ?_
    · cases k1; cases k2; cases k3; exact opg_yes rfl rfl (op_neq rfl rfl ⟨_, UpM.refl _ _, by rw [decide_eq_false (fun h => h rfl)]; rfl⟩)
    refine dr_cons (isv (.bool false)) (by decide) (mono_isv _) (ob2 rfl fun M w' hs2 v1 k1 v2 k2 => ?_) ?_
    · cases k1; cases k2; exact opg (op_pick_f rfl rfl ⟨_, UpM.refl _ _, rfl⟩)
    refine dr_cons (isv (.bool false)) (by decide) (mono_isv _) (ob1 rfl fun M w' hs2 v1 k1 => ?_) ?_
    · cases k1; exact opg (op_move rfl ⟨_, UpM.refl _ _, rfl⟩)
    refine dr_cons (isv va) (by decide) (mono_isv _) (ob1 rfl fun M w' hs2 v1 k1 => ?_) ?_
    · cases k1; exact opg_yes rfl rfl (op_move rfl ⟨_, UpM.refl _ _, rfl⟩)
    refine dr_cons (isv (.int .i64 i)) (by decide) (mono_isv _) (ob1 rfl fun M w' hs2 v1 k1 => ?_) ?_
    · cases k1; exact opg_yes rfl rfl (op_move rfl ⟨_, UpM.refl _ _, rfl⟩)
    refine dr_cons (isPtr ePg ps[i]) (by decide) (mono_isPtr _ _) (ob3 rfl fun M w' hs2 v1 k1 v2 k2 v3 k3 => ?_) ?_
    · cases k1; cases k2; cases k3; exact opg_yes rfl rfl (op_indexAddr uP teP rfl rfl (hsa.mono hs2.x) (by omega) fun ad hn he => ⟨_, UpM.refl _ _, ad, rfl, he⟩)
    refine dr_cons (isPtr (eSl eLine) ps[i].body) (by decide) (mono_isPtr _ _) (ob2 rfl fun M w' hs2 v1 k1 v2 k2 => ?_) ?_
    · cases k1; obtain ⟨ad2, rfl, he2⟩ := k2; exact opg_yes rfl rfl (op_fieldAddr fdP3 rfl ⟨_, UpM.refl _ _, _, rfl, he2.pg.2.1⟩)
    refine dr_cons (isSl eLine ps[i].body) (by decide) (mono_isSl _ _) (ob2 rfl fun M w' hs2 v1 k1 v2 k2 => ?_) ?_
    · cases k1; obtain ⟨ad2, rfl, he2⟩ := k2; exact opg_yes rfl rfl (op_load teSL rfl he2 fun u hu => ⟨_, UpM.refl _ _, eSl_V.1 hu⟩)
    refine dr_cons (isv vb) (by decide) (mono_isv _) (ob1 rfl fun M w' hs2 v1 k1 => ?_) ?_
    · cases k1; exact opg_yes rfl rfl (op_move rfl ⟨_, UpM.refl _ _, rfl⟩)
    refine dr_cons (isv (.int .i64 i)) (by decide) (mono_isv _) (ob1 rfl fun M w' hs2 v1 k1 => ?_) ?_
    · cases k1; exact opg_yes rfl rfl (op_move rfl ⟨_, UpM.refl _ _, rfl⟩)
    refine dr_cons (isPtr ePg ps[i]) (by decide) (mono_isPtr _ _) (ob3 rfl fun M w' hs2 v1 k1 v2 k2 v3 k3 => ?_) ?_
    · cases k1; cases k2; cases k3; exact opg_yes rfl rfl (op_indexAddr uP teP rfl rfl (hsb.mono hs2.x) (by omega) fun ad hn he => ⟨_, UpM.refl _ _, ad, rfl, he⟩)
    refine dr_cons (isPtr (eSl eLine) ps[i].body) (by decide) (mono_isPtr _ _) (ob2 rfl fun M w' hs2 v1 k1 v2 k2 => ?_) ?_
    · cases k1; obtain ⟨ad2, rfl, he2⟩ := k2; exact opg_yes rfl rfl (op_fieldAddr fdP3 rfl ⟨_, UpM.refl _ _, _, rfl, he2.pg.2.1⟩)
    refine dr_cons (isSl eLine ps[i].body) (by decide) (mono_isSl _ _) (ob2 rfl fun M w' hs2 v1 k1 v2 k2 => ?_) ?_
    · cases k1; obtain ⟨ad2, rfl, he2⟩ := k2; exact opg_yes rfl rfl (op_load teSL rfl he2 fun u hu => ⟨_, UpM.refl _ _, eSl_V.1 hu⟩)
    refine dr_cons (isv (.bool true)) (by decide) (mono_isv _) (ob3 rfl fun M w' hs2 v1 k1 v2 k2 v3 k3 => ?_) ?_
    · cases k1; exact opg_yes rfl rfl (op_call ent46 rfl (sameLines_c M _ _ _ _ (hs2.mb hr.mb) k2 k3) fun u w2 hu => ⟨_, UpM.of_below hu.2, hu.1⟩)
    refine dr_cons (isv (.bool false)) (by decide) (mono_isv _) (ob2 rfl fun M w' hs2 v1 k1 v2 k2 => ?_) ?_
    · cases k1; cases k2; exact opg_yes rfl rfl (op_not rfl ⟨_, UpM.refl _ _, rfl⟩)
    refine dr_cons (isv (.bool false)) (by decide) (mono_isv _) (ob2 rfl fun M w' hs2 v1 k1 v2 k2 => ?_) ?_
    · cases k1; cases k2; exact opg (op_pick_f rfl rfl ⟨_, UpM.refl _ _, rfl⟩)
    refine dr_cons (isv (.bool false)) (by decide) (mono_isv _) (ob1 rfl fun M w' hs2 v1 k1 => ?_) ?_
    · cases k1; exact opg (op_move rfl ⟨_, UpM.refl _ _, rfl⟩)
    refine dr_cons (isv va) (by decide) (mono_isv _) (ob1 rfl fun M w' hs2 v1 k1 => ?_) ?_
    · cases k1; exact opg_yes rfl rfl (op_move rfl ⟨_, UpM.refl _ _, rfl⟩)
    refine dr_cons (isv (.int .i64 i)) (by decide) (mono_isv _) (ob1 rfl fun M w' hs2 v1 k1 => ?_) ?_
    · cases k1; exact opg_yes rfl rfl (op_move rfl ⟨_, UpM.refl _ _, rfl⟩)
    refine dr_cons (isPtr ePg ps[i]) (by decide) (mono_isPtr _ _) (ob3 rfl fun M w' hs2 v1 k1 v2 k2 v3 k3 => ?_) ?_
    · cases k1; cases k2; cases k3; exact opg_yes rfl rfl (op_indexAddr uP teP rfl rfl (hsa.mono hs2.x) (by omega) fun ad hn he => ⟨_, UpM.refl _ _, ad, rfl, he⟩)
    refine dr_cons (isPtr (eSl eLine) ps[i].notes) (by decide) (mono_isPtr _ _) (ob2 rfl fun M w' hs2 v1 k1 v2 k2 => ?_) ?_
    · cases k1; obtain ⟨ad2, rfl, he2⟩ := k2; exact opg_yes rfl rfl (op_fieldAddr fdP4 rfl ⟨_, UpM.refl _ _, _, rfl, he2.pg.2.2⟩)
    refine dr_cons (isSl eLine ps[i].notes) (by decide) (mono_isSl _ _) (ob2 rfl fun M w' hs2 v1 k1 v2 k2 => ?_) ?_
    · cases k1; obtain ⟨ad2, rfl, he2⟩ := k2; exact opg_yes rfl rfl (op_load teSL rfl he2 fun u hu => ⟨_, UpM.refl _ _, eSl_V.1 hu⟩)
    refine dr_cons (isv vb) (by decide) (mono_isv _) (ob1 rfl fun M w' hs2 v1 k1 => ?_) ?_
    · cases k1; exact opg_yes rfl rfl (op_move rfl ⟨_, UpM.refl _ _, rfl⟩)
    refine dr_cons (isv (.int .i64 i)) (by decide) (mono_isv _) (ob1 rfl fun M w' hs2 v1 k1 => ?_) ?_
    · cases k1; exact opg_yes rfl rfl (op_move rfl ⟨_, UpM.refl _ _, rfl⟩)
    refine dr_cons (isPtr ePg ps[i]) (by decide) (mono_isPtr _ _) (ob3 rfl fun M w' hs2 v1 k1 v2 k2 v3 k3 => ?_) ?_
    · cases k1; cases k2; cases k3; exact opg_yes rfl rfl (op_indexAddr uP teP rfl rfl (hsb.mono hs2.x) (by omega) fun ad hn he => ⟨_, UpM.refl _ _, ad, rfl, he⟩)
    refine dr_cons (isPtr (eSl eLine) ps[i].notes) (by decide) (mono_isPtr _ _) (ob2 rfl fun M w' hs2 v1 k1 v2 k2 => ?_) ?_
    · cases k1; obtain ⟨ad2, rfl, he2⟩ := k2; exact opg_yes rfl rfl (op_fieldAddr fdP4 rfl ⟨_, UpM.refl _ _, _, rfl, he2.pg.2.2⟩)
    refine dr_cons (isSl eLine ps[i].notes) (by decide) (mono_isSl _ _) (ob2 rfl fun M w' hs2 v1 k1 v2 k2 => ?_) ?_
    · cases k1; obtain ⟨ad2, rfl, he2⟩ := k2; exact opg_yes rfl rfl (op_load teSL rfl he2 fun u hu => ⟨_, UpM.refl _ _, eSl_V.1 hu⟩)
    refine dr_cons (isv (.bool true)) (by decide) (mono_isv _) (ob3 rfl fun M w' hs2 v1 k1 v2 k2 v3 k3 => ?_) ?_
    · cases k1; exact opg_yes rfl rfl (op_call ent46 rfl (sameLines_c M _ _ _ _ (hs2.mb hr.mb) k2 k3) fun u w2 hu => ⟨_, UpM.of_below hu.2, hu.1⟩)
    refine dr_cons (isv (.bool false)) (by decide) (mono_isv _) (ob2 rfl fun M w' hs2 v1 k1 v2 k2 => ?_) ?_
    · cases k1; cases k2; exact opg_yes rfl rfl (op_not rfl ⟨_, UpM.refl _ _, rfl⟩)
    refine dr_nil rfl (fun M3 w4 val hs2 hall => ?_)
    obtain ⟨h80, _, _, _, _, _, _, _, _, _, _, _, h68, _⟩ := hall
    have e80 : val 80 = _ := h80; have e68 : val 68 = _ := h68
    replace hsa := hsa.mono hs2.x
    replace hsb := hsb.mono hs2.x
    replace hr := hr.up hs2
    refine RT.sub (fr' := [(0, va), (1, vb), (5, .int .i64 i), (68, val 68), (80, val 80)]) ?_ (by repeat (first | exact trivial | refine ⟨rfl, ?_⟩))
    rw [e68, e80]
    refine rt_one (i := 64) (by kernel_rfl) rfl (by decide) (op_pick_f rfl rfl ?_)
    refine rt_nil (by kernel_rfl) ?_
    (repeat (first | refine run_region_l ?_ | refine rl_nil ?_ | refine rl_step (by decide) (op_move rfl ?_) | refine rl_step (by decide) (op_assign rfl ?_) | refine run_inBlock ?_ | refine run_skip ?_ | refine run_false rfl ?_ | refine rl_step (by decide) (op_add rfl rfl (by omega) ?_) | fail))
    exact (ih (i + 1, M3) _ ⟨by simp only; omega, hr, hsa, hsb⟩ (by simp only; omega)).sub (by repeat (first | exact trivial | refine ⟨rfl, ?_⟩))
  · (repeat (first | refine run_seq ?_ | refine run_region_l ?_ | refine rl_nil ?_ | refine rl_step (by decide) (op_assign rfl ?_) | refine run_exit rfl ?_ | fail))
    refine run_ret1 Tryd.func24 rfl rfl ?_
    exact ⟨rfl, hr.bel⟩
end Go.Proofs.YtocoinkhbjlbhaaDoor
end

section
namespace Go.Proofs.YtocoinkhbjlbhaaDoor
open Go Go.RowKit
theorem aro_rng {n m : Int} (hm : 1 ≤ m) (h : I64 m) : Rng .i64 (aro n m) := by
  have := aro_bd n m hm
  unfold I64 at h
  exact rng64 (by omega)
theorem around03_f {n m : Int} (h : 1 ≤ m) : Fn Tryd.prog 19 [pI n, pI m] (pI (aro n m)) := ⟨ent19, fun M w vs _ _ hf => by
  match vs, hf with
  | [u, v], ⟨⟨h1, h2⟩, ⟨h3, h4⟩, _⟩ =>
    subst h1 h3
    exact (around03 n m w (h2.1 rfl) h).mono fun u w' ⟨e, e2⟩ => ⟨⟨e, aro_rng h (h4.1 rfl)⟩, e2 ▸ Below.refl _ _⟩⟩
theorem height_f {n : Int} : Fn Tryd.prog 21 [pI n] (pI (4 + aro n 97)) := ⟨ent21, fun M w vs _ _ hf => by
  match vs, hf with
  | [u], ⟨⟨h1, h2⟩, _⟩ =>
    subst h1
    have := aro_bd n 97 (by omega)
    exact (height_c n w (h2.1 rfl)).mono fun u w' ⟨e, e2⟩ => ⟨⟨e, rng64 (by omega)⟩, e2 ▸ Below.refl _ _⟩⟩
theorem lives27_f : Fn Tryd.prog 25 [] (pB true) := ⟨ent25, fun M w vs hm hl0 hf => by
  match vs, hf with
  | [], _ => exact lives_c M w hm⟩
theorem samePages_f {ps qs : List Pg} (h : ps = qs) : Fn Tryd.prog 24 [pSl ePg ps, pSl ePg qs] (pB true) := ⟨ent24, fun M w vs hm hl0 hf => by
  subst h
  match vs, hf with
  | [u, v], ⟨h1, h2, _⟩ => exact samePages_c M u v ps w hm h1 h2⟩
end Go.Proofs.YtocoinkhbjlbhaaDoor
end

section
namespace Go.Proofs.YtocoinkhbjlbhaaDoor
open Go Go.RowKit
end Go.Proofs.YtocoinkhbjlbhaaDoor
end

section
namespace Go.Proofs.YtocoinkhbjlbhaaDoor
open Go Go.RowKit
theorem ints_f {l : List Int} : Fn Tryd.prog 87 [pSl eI l, pI l.length] (pSl eI l) := by
  refine fn_of ent87 Tryd.func87 rfl Tryd.ntmps87 rfl fun M0 w0 => ?_
  refine c_have 0 (fun h => i_len h) fun hl => ?_
  (repeat (first | refine c_seq ?_ | refine c_reg ?_ | refine c_rnil ?_ | refine c_op (by first | exact t_move | exact t_assign | exact t_min | exact t_len | exact t_sliceH | fail) ?_ | fail))
  refine c_opW (t_appN 1) ?_
  (repeat (first | refine c_rnil ?_ | refine c_op (by first | exact t_assignG | fail) ?_ | fail))
  refine c_ret1 Tryd.func87 rfl ?_
  intro M w v h
  have e : (min (l.length : Int) l.length).toNat = l.length := by omega
  rw [e, List.take_length] at h
  exact h
theorem bl_line4 {a b : Int} {l m : List Int} : BLc Tryd.prog 42 [0, 1, 2, 3] [pI a, pI b, pSl eI l, pSl eI m] eLine ⟨a, b, l, m⟩ :=
  blc sbL rfl lineZ (bls_cons l0 inferInstance rfl (bls_cons l1 inferInstance rfl (bls_cons l2 inferInstance rfl (bls_cons l3 inferInstance rfl bls_nil))))
theorem copy_f {x : Line} : Fn Tryd.prog 67 [pV eLine x] (pV eLine x) := by
  refine fn_of ent67 Tryd.func67 rfl Tryd.ntmps67 rfl fun M0 w0 => ?_
  (repeat (first | refine c_seq ?_ | refine c_reg ?_ | refine c_op (by first | exact t_boxP | fail) ?_ | fail))
  refine c_alloc (E := eLine) 1 100001 fun b => ?_
  (repeat (first | refine c_seq ?_ | refine c_rnil ?_ | fail))
  refine c_draw {} 17 1 [] [] mixed (by kernel_rfl) rfl rfl ?_
  (repeat (first | refine d_op (by first | exact t_call (h := ints_f) | exact (t_bl (hB := bl_line4)) | exact t_len | exact t_load | exact t_fa | fail) ?_ | fail))
  refine d_nil ?_
  refine q_st 17 100001 (by kernel_rfl) rfl (t_st 100001 (hi := by simp)) ?_
  refine q_nil ?_ (by kernel_rfl)
  (repeat (first | refine c_seq ?_ | fail))
  refine c_retC Tryd.func67 rfl 100001 (fun h => h)
theorem used_f {p : Pg} : Fn Tryd.prog 69 [pV ePg p] (pI (usedM p)) := ⟨ent69, fun M w vs hm hl0 hf => by
  match vs, hf with
  | [v], ⟨h1, _⟩ =>
    have := usedM_bd h1
    exact (used_c M w v p hm h1).mono fun u w' ⟨e, hb⟩ => ⟨⟨e, rng64 (by omega)⟩, hb⟩⟩
def fitsR (p : Pg) (x : Line) (q h : Int) : Bool := fitsB h x p.body.length p.notes.length (p.notes.length + q)
theorem fits_f {p : Pg} {x : Line} {q h : Int} (h0 : 0 ≤ q) (hh : 4 ≤ h ∧ h ≤ 100) (hp : usedM p ≤ 1000000) : Fn Tryd.prog 68 [pV ePg p, pV eLine x, pI q, pI h] (pB (fitsR p x q h)) := by
  have hu : usedM p = p.body.length + p.notes.length + min (p.notes.length : Int) 1 := rfl
  refine fn_of ent68 Tryd.func68 rfl Tryd.ntmps68 rfl fun M0 w0 => ?_
  (repeat (first | refine c_seq ?_ | refine c_reg ?_ | refine c_rnil ?_ | refine c_op (by first | exact t_assign | exact t_eql | exact t_len | exact t_load | exact t_fa | exact t_boxP | fail) ?_ | fail))
  refine c_if (fun hx => ?_) fun hx => ?_
  · have hx0 : x.notes = [] := List.eq_nil_of_length_eq_zero (by omega)
    (repeat (first | refine c_seq ?_ | refine c_reg ?_ | refine c_rnil ?_ | refine c_op (by first | exact t_call (h := used_f) | exact t_move | exact t_assign | exact t_sub | exact t_leq | exact t_load | fail) ?_ | fail))
    refine c_ret1 Tryd.func68 rfl ?_
    intro M w v hv
    rw [show v = _ from hv]
    show _ = _
    congr 1
    unfold fitsR fitsB
    rw [if_pos hx0, decide_eq_decide]
    omega
  · have hx0 : ¬ x.notes = [] := fun e => by rw [e] at hx; exact hx rfl
    by_cases hq : q = 0
    · (repeat (first | refine c_seq ?_ | refine c_reg ?_ | refine c_rnil ?_ | refine c_skip ?_ | refine c_yes ?_ | refine c_op (by first | exact t_call (h := used_f) | exact t_move | exact t_assign | exact t_pickT | exact t_add | exact t_sub | exact t_min | exact t_leq | exact t_eqlT | exact t_len | exact t_load | exact t_fa | fail) ?_ | fail))
      refine c_ret1 Tryd.func68 rfl ?_
      intro M w v hv
      rw [show v = _ from hv]
      show _ = _
      congr 1
      unfold fitsR fitsB
      rw [if_neg hx0, decide_eq_true (show (p.notes.length : Int) = p.notes.length + q by omega), Bool.true_and, decide_eq_decide]
      omega
    · (repeat (first | refine c_seq ?_ | refine c_reg ?_ | refine c_rnil ?_ | refine c_skip ?_ | refine c_no ?_ | refine c_op (by first | exact t_move | exact t_assign | exact t_pickF | exact t_sub | exact t_min | exact t_eqlF | exact t_len | exact t_load | exact t_fa | fail) ?_ | fail))
      refine c_ret1 Tryd.func68 rfl ?_
      intro M w v hv
      rw [show v = _ from hv]
      show _ = _
      congr 1
      unfold fitsR fitsB
      rw [if_neg hx0, decide_eq_false (show ¬ (p.notes.length : Int) = p.notes.length + q by omega)]
      rfl
theorem ok_line {M : Mut} {w : World} {v : Value} {l : List Line} (h : SlOf eLine M w v l) (i : Nat) (hi : i < l.length) : l[i].notes.length ≤ 17592186044416 := by
  obtain ⟨a, cap, h1, h2, h3, h4, h5, h6⟩ := h.ex
  cases a with
  | none => have := h4 rfl; omega
  | some ad =>
    obtain ⟨cs, hR, _⟩ := h6 ad rfl i hi
    obtain ⟨g, n, _, _, _, _, hn⟩ := eLine_R.1 hR
    have := hn.bytes
    have e : eI.by_ = 8 := rfl
    rw [e] at this
    omega
theorem len_lines {M : Mut} {w : World} {v : Value} {l : List (List Line)} (h : SlOf (eSl eLine) M w v l) : l.length ≤ 5864062014805 := by
  have := h.bytes
  have e : (eSl eLine).by_ = 24 := rfl
  rw [e] at this
  omega
set_option maxHeartbeats 1000000 in
theorem wrong_f {body : List Line} {notes : List (List Line)} {h : Int} : Fn Tryd.prog 66 [pSl eLine body, pSl (eSl eLine) notes, pI h] (pI (chkM body notes h)) := by
  refine fn_of ent66 Tryd.func66 rfl Tryd.ntmps66 rfl fun M0 w0 => ?_
  refine c_have 0 (fun h => pg_len h) fun hl1 => ?_
  refine c_have 0 (fun h => ok_line h) fun hl2 => ?_
  refine c_have 1 (fun h => len_lines h) fun hl3 => ?_
  by_cases hh : h < 4 ∨ 100 < h
  · have hc : chkM body notes h = 5 := by unfold chkM; rw [if_pos hh]
    rw [hc]
    by_cases h4 : h < 4
    · (repeat (first | refine c_seq ?_ | refine c_reg ?_ | refine c_rnil ?_ | refine c_true ?_ | refine c_no ?_ | refine c_op (by first | exact t_move | exact t_assign | exact t_pickT | exact t_lssT | fail) ?_ | fail))
      refine c_ret1 Tryd.func66 rfl ?_
      exact fun h => h
    · have : 100 < h := by omega
      (repeat (first | refine c_seq ?_ | refine c_reg ?_ | refine c_rnil ?_ | refine c_true ?_ | refine c_yes ?_ | refine c_op (by first | exact t_move | exact t_assign | exact t_pickF | exact t_lssF | exact t_gtrT | fail) ?_ | fail))
      refine c_ret1 Tryd.func66 rfl ?_
      exact fun h => h
  unfold chkM
  rw [if_neg hh]
  (repeat (first | refine c_seq ?_ | refine c_reg ?_ | refine c_rnil ?_ | refine c_block ?_ | refine c_skip ?_ | refine c_false ?_ | refine c_yes ?_ | refine c_op (by first | exact t_move | exact t_assign | exact t_pickF | exact t_lssF | exact t_gtrF | fail) ?_ | fail))
  refine c_loop (fun i : Nat => [(0, .pu (pSl eLine body)), (1, .pu (pSl (eSl eLine) notes)), (7, .pu (pI i))]) (fun i => i ≤ notes.length ∧ ∀ j (hj : j < notes.length), j < i → notes[j].length ≠ 0) (fun i => notes.length - i) 0 ⟨by omega, fun _ _ h => by omega⟩ (by repeat (first | exact trivial | refine ⟨has_rfl rfl, ?_⟩ | fail)) fun i ⟨hi, hpre⟩ ih => ?_
  (repeat (first | refine c_seq ?_ | refine c_reg ?_ | refine c_rnil ?_ | refine c_op (by first | exact t_move | exact t_lss | exact t_len | fail) ?_ | fail))
  refine c_if (fun hlt => ?_) fun hge => ?_
  · have hlt' : i < notes.length := by omega
    by_cases hz : notes[i].length = 0
    · rw [if_pos (List.any_eq_true.2 ⟨notes[i], List.getElem_mem hlt', by simpa using hz⟩)]
      (repeat (first | refine c_seq ?_ | refine c_reg ?_ | refine c_rnil ?_ | refine c_block ?_ | refine c_skip ?_ | refine c_true ?_ | refine c_op (by first | exact t_move | exact t_assign | exact t_eqlT | exact t_len | exact t_idxN | exact t_load | fail) ?_ | fail))
      refine c_ret1 Tryd.func66 rfl ?_
      exact fun h => h
    · (repeat (first | refine c_seq ?_ | refine c_reg ?_ | refine c_rnil ?_ | refine c_block ?_ | refine c_inBlock ?_ | refine c_skip ?_ | refine c_false ?_ | refine c_op (by first | exact t_move | exact t_assign | exact t_add | exact t_eqlF | exact t_len | exact t_idxN | exact t_load | fail) ?_ | fail))
      refine (ih (i + 1) ⟨by omega, fun j hj hji => ?_⟩ (by omega)).sub (by repeat (first | exact trivial | refine ⟨has_rfl rfl, ?_⟩ | fail))
      rcases Nat.lt_or_ge j i with h | h
      · exact hpre j hj h
      · have : j = i := by omega
        subst this
        exact hz
  have hany : ¬ (notes.any fun x => decide ((x.length : Int) = 0)) = true := fun hc => by
    obtain ⟨x, hx, hx2⟩ := List.any_eq_true.1 hc
    obtain ⟨j, hj, rfl⟩ := List.mem_iff_getElem.1 hx
    exact hpre j hj (by omega) (by have := of_decide_eq_true hx2; omega)
  rw [if_neg hany]
  (repeat (first | refine c_seq ?_ | refine c_reg ?_ | refine c_rnil ?_ | refine c_block ?_ | refine c_exit ?_ | refine c_op (by first | exact t_assign | fail) ?_ | fail))
  refine c_loop (fun x : Nat × Nat => [(0, .pu (pSl eLine body)), (1, .pu (pSl (eSl eLine) notes)), (8, .pu (pI x.2)), (9, .pu (pI x.1))])
    (fun x => x.1 ≤ body.length ∧ x.2 ≤ notes.length ∧ ordM (refs body) 0 notes.length = ordM (refs (body.drop x.1)) x.2 notes.length) (fun x => body.length - x.1) (0, 0) ⟨by omega, by omega, rfl⟩ (by repeat (first | exact trivial | refine ⟨has_rfl rfl, ?_⟩ | fail)) ?_
  rintro ⟨i, nx⟩ ⟨hi, hnx, hord⟩ ih
  dsimp only at hi hnx hord ih ⊢
  (repeat (first | refine c_seq ?_ | refine c_reg ?_ | refine c_rnil ?_ | refine c_op (by first | exact t_move | exact t_lss | exact t_len | fail) ?_ | fail))
  refine c_if (fun hlt => ?_) fun hge => ?_
  · have hlt' : i < body.length := by omega
    have hb2 := hl2 i hlt'
    rw [refs_drop body i hlt'] at hord
    (repeat (first | refine c_seq ?_ | refine c_reg ?_ | refine c_rnil ?_ | refine c_block ?_ | refine c_skip ?_ | refine c_op (by first | exact t_assign | fail) ?_ | fail))
    refine c_loop (fun x : Nat × Nat => [(0, .pu (pSl eLine body)), (1, .pu (pSl (eSl eLine) notes)), (8, .pu (pI x.2)), (9, .pu (pI i)), (10, .pu (pI x.1))])
      (fun x => x.1 ≤ body[i].notes.length ∧ x.2 ≤ notes.length ∧ ordM (refs body) 0 notes.length = ordM (body[i].notes.drop x.1 ++ refs (body.drop (i + 1))) x.2 notes.length) (fun x => body[i].notes.length - x.1) (0, nx) ⟨by omega, hnx, hord⟩ (by repeat (first | exact trivial | refine ⟨has_rfl rfl, ?_⟩ | fail)) ?_
    rintro ⟨j, n2⟩ ⟨hj, hn2, hord2⟩ ihj
    dsimp only at hj hn2 hord2 ihj ⊢
    (repeat (first | refine c_seq ?_ | refine c_reg ?_ | refine c_rnil ?_ | refine c_op (by first | exact t_move | exact t_lss | exact t_len | exact t_idxN | exact t_load | exact t_fa | fail) ?_ | fail))
    refine c_if (fun hlt2 => ?_) fun hge2 => ?_
    · have hlt2' : j < body[i].notes.length := by omega
      rw [ordM_drop _ _ hlt2'] at hord2
      by_cases hbad : body[i].notes[j] ≠ n2 ∨ notes.length ≤ body[i].notes[j]
      · rw [if_pos hbad] at hord2
        rw [hord2]
        by_cases h1 : body[i].notes[j] = n2
        · have h2 : (notes.length : Int) ≤ n2 := by omega
          (repeat (first | refine c_seq ?_ | refine c_reg ?_ | refine c_rnil ?_ | refine c_block ?_ | refine c_skip ?_ | refine c_true ?_ | refine c_yes ?_ | refine c_op (by first | exact t_move | exact t_assign | exact t_pickF | exact t_geqT | exact t_neqF | exact t_len | exact t_idxN | exact t_load | exact t_fa | fail) ?_ | fail))
          refine c_ret1 Tryd.func66 rfl ?_
          exact fun h => h
        · (repeat (first | refine c_seq ?_ | refine c_reg ?_ | refine c_rnil ?_ | refine c_block ?_ | refine c_skip ?_ | refine c_true ?_ | refine c_no ?_ | refine c_op (by first | exact t_move | exact t_assign | exact t_pickT | exact t_neqT | exact t_idxN | exact t_load | exact t_fa | fail) ?_ | fail))
          refine c_ret1 Tryd.func66 rfl ?_
          exact fun h => h
      · rw [if_neg hbad] at hord2
        have h1 : body[i].notes[j] = n2 := Classical.byContradiction fun hc => hbad (.inl hc)
        have h2 : (n2 : Int) < notes.length := by omega
        (repeat (first | refine c_seq ?_ | refine c_reg ?_ | refine c_rnil ?_ | refine c_block ?_ | refine c_inBlock ?_ | refine c_skip ?_ | refine c_false ?_ | refine c_yes ?_ | refine c_op (by first | exact t_move | exact t_assign | exact t_pickF | exact t_add | exact t_geqF | exact t_neqF | exact t_len | exact t_idxN | exact t_load | exact t_fa | fail) ?_ | fail))
        exact (ihj (j + 1, n2 + 1) ⟨by omega, by omega, hord2⟩ (by dsimp only; omega)).sub (by repeat (first | exact trivial | refine ⟨has_rfl rfl, ?_⟩ | fail))
    · have hje : j = body[i].notes.length := by omega
      subst hje
      rw [List.drop_length, List.nil_append] at hord2
      (repeat (first | refine c_reg ?_ | refine c_rnil ?_ | refine c_inBlock ?_ | refine c_exit ?_ | refine c_op (by first | exact t_move | exact t_assign | exact t_add | fail) ?_ | fail))
      exact (ih (i + 1, n2) ⟨by omega, hn2, hord2⟩ (by dsimp only; omega)).sub (by repeat (first | exact trivial | refine ⟨has_rfl rfl, ?_⟩ | fail))
  · have hie : i = body.length := by omega
    subst hie
    rw [List.drop_length] at hord
    rw [hord]
    simp only [refs, List.flatMap_nil, ordM]
    by_cases hlt2 : nx < notes.length
    · rw [if_pos (by omega)]
      (repeat (first | refine c_seq ?_ | refine c_reg ?_ | refine c_rnil ?_ | refine c_exit ?_ | refine c_true ?_ | refine c_op (by first | exact t_move | exact t_assign | exact t_lssT | exact t_len | fail) ?_ | fail))
      refine c_ret1 Tryd.func66 rfl ?_
      exact fun h => h
    · rw [if_neg (by omega)]
      (repeat (first | refine c_seq ?_ | refine c_reg ?_ | refine c_rnil ?_ | refine c_exit ?_ | refine c_skip ?_ | refine c_false ?_ | refine c_op (by first | exact t_move | exact t_assign | exact t_lssF | exact t_len | fail) ?_ | fail))
      refine c_ret1 Tryd.func66 rfl ?_
      exact fun h => h
end Go.Proofs.YtocoinkhbjlbhaaDoor
end

section
namespace Go.Proofs.YtocoinkhbjlbhaaDoor
end Go.Proofs.YtocoinkhbjlbhaaDoor
end
