/-
  The examples of layer 26.
-/
import Derived.Test.YtocoinkhbjlbhaaT26h
import Derived.Test.YtocoinkhbjlbhaaT26c
namespace Go.Proofs.Ytocoinkhbjlbhaa
open Go Go.RowKit

theorem ends_v {w r : List Int} {m : Int} (h : chk26 w m = 0) (h2 : endsM w m = r) : Fn Try.prog 38 [pSl eI w, pI m] (pT2 (pSl eI r) (pI 0)) := by
  have := ends_f (w := w) (m := m)
  rwa [if_pos h, h, h2] at this
theorem cost_v {w ends : List Int} {m c e : Int} (h : costM w m ends = (c, e)) : Fn Try.prog 34 [pSl eI w, pI m, pSl eI ends] (pT2 (pI c) (pI e)) := by
  have := cost_f (w := w) (m := m) (ends := ends)
  rwa [h] at this
theorem gaps_v {w r : List Int} {m : Int} {last : Bool} (hm : 0 ≤ m ∧ m ≤ 2000) (hl : w.length ≤ 500) (hw : ∀ x ∈ w, 1 ≤ x ∧ x ≤ 480) (h : gapsM w m last = r) : Fn Try.prog 41 [pSl eI w, pI m, pB last] (pSl eI r) := by
  have := gaps_f (w := w) (m := m) (last := last) hm hl hw
  rwa [h] at this
theorem same_v {a : List Int} : Fn Try.prog 40 [pSl eI a, pSl eI a] (pB true) := by
  have := sameInts_f (a := a) (b := a)
  rwa [decide_eq_true rfl] at this

set_option maxHeartbeats 2000000 in
theorem lives_f : Fn Try.prog 37 [] (pB true) := by
  have e1 := ends_v (w := [200, 200, 200, 90]) (m := 500) (r := [2, 4]) (by decide) (by decide)
  have e2 := ends_v (w := [247, 247, 247, 247]) (m := 500) (r := [2, 4]) (by decide) (by decide)
  have c1 := cost_v (w := [200, 200, 200, 90]) (m := 500) (ends := [2, 4]) (c := 8836) (e := 0) (by decide)
  have c2 := cost_v (w := [200, 200, 200, 90]) (m := 500) (ends := [1, 3, 4]) (c := 98836) (e := 0) (by decide)
  have c3 := cost_v (w := [200, 200, 200, 90]) (m := 500) (ends := [1, 4]) (c := 0) (e := 9) (by decide)
  have g1 := gaps_v (w := [100, 100, 100]) (m := 500) (last := false) (r := [100, 100]) (by decide) (by decide) (by decide) (by decide)
  have g2 := gaps_v (w := [100, 100, 99]) (m := 500) (last := false) (r := [101, 100]) (by decide) (by decide) (by decide) (by decide)
  have g3 := gaps_v (w := [100, 100, 99]) (m := 500) (last := true) (r := [6, 6]) (by decide) (by decide) (by decide) (by decide)
  have g4 := gaps_v (w := [9]) (m := 500) (last := false) (r := []) (by decide) (by decide) (by decide) (by decide)
  refine fn_of ent37 Try.func37 rfl Try.ntmps37 rfl fun M0 w0 => ?_
  (repeat (first | refine c_seq ?_ | refine c_reg ?_ | refine c_rnil ?_ | refine c_block ?_ | refine c_inBlock ?_ | refine c_exit ?_ | refine c_skip ?_ | refine c_label ?_ | refine c_true ?_ | refine c_false ?_ | refine c_yes ?_ | refine c_no ?_ | refine c_op (by first | exact t_call (h := e1) | exact t_call (h := e2) | exact t_call (h := c1) | exact t_call (h := c2) | exact t_call (h := c3) | exact t_call (h := g1) | exact t_call (h := g2) | exact t_call (h := g3) | exact t_call (h := g4) | exact t_call (h := same_v) | exact (t_bsI [200, 200, 200, 90]) | exact (t_bsI [2, 4]) | exact (t_bsI [1, 3, 4]) | exact (t_bsI [1, 4]) | exact (t_bsI [247, 247, 247, 247]) | exact (t_bsI [100, 100, 100]) | exact (t_bsI [100, 100, 99]) | exact (t_bsI [100, 100]) | exact (t_bsI [101, 100]) | exact (t_bsI [6, 6]) | exact (t_bsI [9]) | exact t_moveG | exact t_move | exact t_moveO | exact t_assignG | exact t_assignO | exact t_assign | exact t_pickT | exact t_pickF | exact t_add | exact t_sub | exact t_neg | exact t_not | exact t_min | exact t_max | exact t_lssT | exact t_lssF | exact t_lss | exact t_leqT | exact t_leqF | exact t_leq | exact t_gtrT | exact t_gtrF | exact t_gtr | exact t_geqT | exact t_geqF | exact t_geq | exact t_eqlT | exact t_eqlF | exact t_eql | exact t_neqT | exact t_neqF | exact t_neq | exact t_ext0 | exact t_ext1 | exact t_ext30 | exact t_ext31 | exact t_ext32 | exact t_len | exact t_lenN | exact t_lenR | exact t_idxN | exact t_idx | exact t_load | exact t_fa | exact t_fv | exact t_bl | exact t_sliceG | exact t_sliceLHN | exact t_sliceLN | exact t_sliceHN | exact t_sliceLH | exact t_sliceL | exact t_sliceH | exact t_bs | exact t_quo | exact t_rem | exact t_boxP) ?_ | refine c_opW t_app ?_))
  refine c_ret1 Try.func37 rfl ?_
  exact fun h => h

end Go.Proofs.Ytocoinkhbjlbhaa
