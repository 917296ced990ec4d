/-
  Part 3 of 4 of the proof of paraShapes_card: lemmas on which it rests, each for all inputs. Merged from the texts D20 D7 D8 T26b T26c T26d T26e T26f T26g T26h T26i P26 M26c D9 D10 D11 D12 D13 D21 M27 S2 S3 S4 S5 S6 S7 S8 S9 S10 P27 S11 P27b S12 P27c S13 P27d P27e S14 T1 S15 T2 P27f S17 D22 D23 F1 F3.
-/
import Derived.Calls
import Derived.Orders
import Derived.Below
import Derived.KernelRfl
import Derived.WalkKit
import Derived.Laws.AppendOwn
import Derived.Laws.Rows
import Derived.Deep.Slices
import Derived.Laws.OwnMore
import Derived.Laws.MakeOwn
import Derived.Laws.CopyRow
import Derived.Still
import Derived.Lib.SliceRun
import Derived.Test.YtedlipgopicijaaDoorChecked
import Derived.Lib.AppendZeros
import Derived.Scope
import Derived.Test.YtedlipgopicijaaDoorVSx2
section
namespace Go.Proofs.YtedlipgopicijaaDoor
open Go Go.RowKit
theorem findK_all {ps : List (List Wd)} {k f : Nat} (h : refOk ((ps[k]?).getD []) (lastM ps k) = true) : findK ps k (f + 1) = some k := by simp only [findK, h, if_true]
theorem findK_next {ps : List (List Wd)} {k f : Nat} (h : ¬ refOk ((ps[k]?).getD []) (lastM ps k) = true) : findK ps k (f + 1) = findK ps (k + 1) f := by simp only [findK, if_neg h]
theorem put_v (r : RowD) (n : Nat) (x : Wd) : (r.put n x).v = r.v := by unfold RowD.put RowD.v; simp
theorem rset_same {α β : Type} {f : α → β} {l : List α} {k : Nat} {x : α} (h : k < l.length) (e : f x = f l[k]) : (l.set k x).map f = l.map f := by
  apply List.ext_getElem (by simp)
  intro j h1 h2
  simp only [List.getElem_map, List.getElem_set]
  split
  · rename_i e2; subst e2; exact e
  · rfl
set_option maxHeartbeats 16000000 in
theorem text_f {l : List Int} : FnTx Tryd.prog 8 [pSl eI l] (textM l) := by
  refine fnTx_of ent8 Tryd.func8 rfl Tryd.ntmps8 rfl fun M0 w0 => ?_
  refine c_have 0 (fun h => i_len26 h) fun hl => ?_
  have hc0 := pickM_bd l 0 4 (by omega)
  have hc1 := pickM_bd l 1 4 (by omega)
  obtain ⟨c0, hc0'⟩ : ∃ c : Nat, (c : Int) = pickM l 0 4 := ⟨(pickM l 0 4).toNat, by omega⟩
  obtain ⟨c1, hc1'⟩ : ∃ c : Nat, (c : Int) = pickM l 1 4 := ⟨(pickM l 1 4).toNat, by omega⟩
  (repeat (first | refine c_seq ?_ | refine c_reg ?_ | refine (c_allocB 15 100 tdT) ?_ | fail))
  intro b2
  (repeat (first | refine c_seq ?_ | refine c_reg ?_ | refine c_rnil ?_ | refine (c_allocB 14 101 tdT) ?_ | fail))
  intro b3
  (repeat (first | refine c_seq ?_ | refine c_reg ?_ | refine c_rnil ?_ | refine c_block ?_ | refine c_op (by first | exact t_call (h := (pick_f (by omega))) | exact t_move | exact t_assign | fail) ?_ | fail))
  refine c_nilV eRaw 11 27 102 ?_
  refine c_gnew 200 (.gh (rowsG 12 [])) (fun {B M w} => ⟨(fun r hr => by cases hr), List.nodup_nil⟩) ?_
  refine c_loop (fun x : Nat × Value × List RowD => [(0, .pu (pSl eI l)), (2, .pu (pCe b2 0)), (100, .bx b2 15 [.slice none 0 0, .slice none 0 0] 25), (3, .pu (pCe b3 0)), (101, .bx b3 14 [x.2.1, .slice none 0 0] 25), (102, .gv x.2.1 eRaw (x.2.2.map RowD.v) 11 27), (200, .gh (rowsG 12 x.2.2)), (4, .pu (pI (pickM l 1 4))), (5, .pu (pI x.1))])
    (fun x => x.1 ≤ c0 + 1 ∧ x.2.2.map RowD.ws = (List.range x.1).map (row0 l)) (fun x => c0 + 1 - x.1) (0, .slice none 0 0, []) ⟨by simp, rfl⟩ (by repeat (first | exact trivial | refine ⟨has_rfl rfl, ?_⟩ | fail)) ?_
  rintro ⟨i, pv0, rows⟩ ⟨hi, hrows⟩ ih
  dsimp only at hi hrows ih ⊢
  have hrl : rows.length = i := by have := congrArg List.length hrows; simpa using this
  by_cases hlt : i ≤ c0
  · have hp := pickM_bd l (2 + i) 1000000 (by omega)
    have pf := part_f (most := 40) hp.1 (by omega)
    (repeat (first | refine c_seq ?_ | refine c_reg ?_ | refine c_rnil ?_ | refine c_block ?_ | refine c_skip ?_ | refine c_true ?_ | refine c_op (by first | exact t_call (h := (pick_f (by omega))) | exact t_move | exact t_leqT | fail) ?_ | fail))
    refine c_draw {} 8 3 [] [] mixed (by kernel_rfl) rfl rfl ?_
    (repeat (first | refine d_op (by first | exact t_call (h := (pick_f (by omega))) | exact (t_faB) | exact (t_loadB 101) | exact (t_callO 200 pf) | exact (t_bsRaw) | exact t_move | exact t_add | fail) ?_ | fail))
    refine d_nil ?_
    refine q_open 24 201 (g := rawG 12 (row0 l i) (rows.map RowD.b)) (β := { r : RowD // r.ws = row0 l i ∧ r.b ∉ rows.map RowD.b }) (fun r => .pu (pSl eRaw [r.1.v])) (fun r => .gh (row1G 12 r.1)) (fun ⟨r, h1, h2, h3, h4⟩ => ⟨⟨r, h1, h4⟩, h2, h3⟩) ?_
    rintro ⟨r, hrw, hrn⟩
    refine q_op 8 (by kernel_rfl) rfl (t_appV 102 (hE := teRaw)) ?_
    refine q_name 25 102 fun pv1 => ?_
    refine q_op 9 (by kernel_rfl) rfl t_faB ?_
    refine q_st 10 101 (by kernel_rfl) rfl (t_stV 101 102) ?_
    refine q_nil ?_ (by kernel_rfl)
    refine c_gh2 200 201 200 (.gh (rowsG 12 (rows ++ [r]))) (rows_snoc hrn) ?_
    (repeat (first | refine c_reg ?_ | refine c_rnil ?_ | refine c_inBlock ?_ | refine c_op (by first | exact t_move | exact t_assign | exact t_add | fail) ?_ | fail))
    refine (ih (i + 1, pv1, rows ++ [r]) ⟨by dsimp only; omega, ?_⟩ (by dsimp only; omega)).sub ?_
    · dsimp only
      rw [List.map_append, hrows, List.range_succ, List.map_append, List.map_cons, List.map_nil, hrw]
      rfl
    · dsimp only
      rw [List.map_append, List.map_cons, List.map_nil]
      (repeat' (first | exact trivial | refine ⟨?_, ?_⟩ | fail)) <;> (try first | exact has_rfl rfl | exact has_nil rfl | exact has_nilS rfl | exact has_gr rfl | exact has_nilGo rfl | exact has_int rfl (by first | omega | fail) | fail)
  · have hi1 : i = c0 + 1 := by omega
    have hpar : rows.map RowD.ws = paras0 l := by rw [hrows, hi1]; unfold paras0; rw [← hc0', Int.toNat_natCast]
    (repeat (first | refine c_seq ?_ | refine c_reg ?_ | refine c_rnil ?_ | refine c_block ?_ | refine c_exit ?_ | refine c_false ?_ | refine c_op (by first | exact t_call (h := (pick_f (by omega))) | exact t_move | exact t_assign | exact t_leqF | fail) ?_ | fail))
    refine c_nilV eRaw 13 27 103 ?_
    refine c_gh 200 200 (.gh (rowsG 12 (rows ++ []))) (fun h => by rw [List.append_nil]; exact h) ?_
    refine c_loop (fun x : Nat × Value × Value × List RowD × List RowD => [(0, .pu (pSl eI l)), (2, .pu (pCe b2 0)), (100, .bx b2 15 [.slice none 0 0, .slice none 0 0] 25), (3, .pu (pCe b3 0)), (101, .bx b3 14 [x.2.1, x.2.2.1] 25), (102, .gv x.2.1 eRaw (x.2.2.2.1.map RowD.v) 11 27), (103, .gv x.2.2.1 eRaw (x.2.2.2.2.map RowD.v) 13 27), (200, .gh (rowsG 12 (x.2.2.2.1 ++ x.2.2.2.2))), (4, .pu (pI c1)), (6, .pu (pI x.1))])
      (fun x => x.1 ≤ c1 ∧ x.2.2.2.1.map RowD.ws = (textN l x.1).paras ∧ x.2.2.2.2.map RowD.ws = (textN l x.1).notes ∧ x.2.2.2.1.length ≤ 4 ∧ x.2.2.2.2.length ≤ x.1) (fun x => c1 - x.1) (0, pv0, .slice none 0 0, rows, []) ⟨by simp, hpar, rfl, by dsimp only; omega, by simp⟩ ?_ ?_
    · dsimp only
      rw [hc1']
      (repeat' (first | exact trivial | refine ⟨?_, ?_⟩ | fail)) <;> (try first | exact has_rfl rfl | exact has_nil rfl | exact has_nilS rfl | exact has_gr rfl | exact has_nilGo rfl | exact has_int rfl (by first | omega | fail) | fail)
    clear ih hrows hpar hrl hi hlt hi1
    rintro ⟨i, pv0, nv0, rows, nrows⟩ ⟨hi, hrows, hnrows, hrl, hnl⟩ ih
    dsimp only at hi hrows hnrows hrl hnl ih ⊢
    by_cases hlt : i < c1
    · have hp := pickM_bd l (6 + i) 1000000 (by omega)
      obtain ⟨n, hn⟩ : ∃ n, n = pickM l (6 + i) 1000000 := ⟨_, rfl⟩
      have hstep := textN_succ l i
      rw [← hn] at hstep hp
      have hpl : (textN l i).paras.length = rows.length := by rw [← hrows]; simp
      have hnl2 : (textN l i).notes.length = nrows.length := by rw [← hnrows]; simp
      (repeat (first | refine c_seq ?_ | refine c_reg ?_ | refine c_rnil ?_ | refine c_block ?_ | refine c_skip ?_ | refine c_true ?_ | refine c_op (by first | exact t_call (h := (pick_f (by omega))) | exact t_move | exact t_assign | exact t_add | exact t_lssT | fail) ?_ | fail))
      rw [← hn]
      refine c_loop (fun k : Nat => [(0, .pu (pSl eI l)), (2, .pu (pCe b2 0)), (100, .bx b2 15 [.slice none 0 0, .slice none 0 0] 25), (3, .pu (pCe b3 0)), (101, .bx b3 14 [pv0, nv0] 25), (102, .gv pv0 eRaw (rows.map RowD.v) 11 27), (103, .gv nv0 eRaw (nrows.map RowD.v) 13 27), (200, .gh (rowsG 12 (rows ++ nrows))), (4, .pu (pI c1)), (6, .pu (pI i)), (7, .pu (pI n)), (8, .pu (pI k))])
        (fun k => k ≤ rows.length ∧ findK (textN l i).paras 0 (textN l i).paras.length = findK (textN l i).paras k (rows.length - k)) (fun k => rows.length - k) 0 ⟨by omega, by rw [hpl]; rfl⟩ (by repeat (first | exact trivial | refine ⟨has_rfl rfl, ?_⟩ | fail)) fun k hk ih2 => ?_
      obtain ⟨hk, hfk⟩ := hk
      by_cases hlk : k < rows.length
      · have hget : ((textN l i).paras[k]?).getD [] = rows[k].ws := by
          rw [← hrows, List.getElem?_map, List.getElem?_eq_getElem hlk]; rfl
        have hlast : lastM (rows.map RowD.ws) k = lastM (textN l i).paras k := by rw [hrows]
        have hll : k < (rows.map RowD.v).length := by simpa using hlk
        have hlen1 : (rows.map RowD.v).length = rows.length := by simp
        have hlen2 : (nrows.map RowD.v).length = nrows.length := by simp
        have hka : k < (rows ++ nrows).length := by rw [List.length_append]; omega
        have hgetA : (rows ++ nrows)[k]'hka = rows[k] := List.getElem_append_left hlk
        rw [show rows.length - k = (rows.length - (k + 1)) + 1 by omega] at hfk
        (repeat (first | refine c_seq ?_ | fail))
        refine c_draw {} 20 3 [] [] mixed (by kernel_rfl) rfl rfl ?_
        (repeat (first | refine d_op (by first | exact (t_faB) | exact (t_loadB 101) | exact (t_lenNm 102) | exact t_move | exact t_lssT | fail) ?_ | refine d_yes (by first | exact (t_faB) | exact (t_loadB 101) | exact (t_lenNm 103) | exact (t_idxNm 102) | exact (t_ldRaw) | exact (t_last (k := k) 102 200) | exact t_move | exact t_add | fail) ?_ | fail))
        refine d_nil ?_
        rw [hlast]
        refine q_yesE 20 200 (by kernel_rfl) rfl (t_refer (i := k) 200 hka hp.1 (by rw [hgetA]; rfl)) fun _ => ?_
        refine q_yes 21 (by kernel_rfl) rfl t_not ?_
        rw [hgetA]
        cases hro : refOk rows[k].ws (lastM (textN l i).paras k)
        · rw [findK_next (by rw [hget, hro]; decide)] at hfk
          refine q_op 22 (by kernel_rfl) rfl t_pickT ?_
          refine q_nil ?_ (by kernel_rfl)
          (repeat (first | refine c_reg ?_ | refine c_rnil ?_ | refine c_block ?_ | refine c_inBlock ?_ | refine c_skip ?_ | refine c_true ?_ | refine c_op (by first | exact t_move | exact t_assign | exact t_add | fail) ?_ | fail))
          exact (ih2 (k + 1) ⟨by omega, hfk⟩ (by omega)).sub (by repeat (first | exact trivial | refine ⟨has_rfl rfl, ?_⟩ | fail))
        · rw [findK_all (by rw [hget, hro])] at hfk
          refine q_op 22 (by kernel_rfl) rfl t_pickT ?_
          refine q_nil ?_ (by kernel_rfl)
          have hset : (rows ++ nrows).set k (refRow rows[k] n ((nrows.map RowD.v).length + 1)) = rows.set k (refRow rows[k] n ((nrows.map RowD.v).length + 1)) ++ nrows := List.set_append_left _ _ hlk
          obtain ⟨rows', hrows'⟩ : ∃ r, r = rows.set k (refRow rows[k] n ((nrows.map RowD.v).length + 1)) := ⟨_, rfl⟩
          have hv' : rows.map RowD.v = rows'.map RowD.v := by rw [hrows']; exact (rset_same hlk (put_v _ _ _)).symm
          have pf := part_f (most := 12) hp.1 (by omega)
          rw [← hrows'] at hset
          (repeat (first | refine c_seq ?_ | refine c_reg ?_ | refine c_rnil ?_ | refine c_exit ?_ | refine c_true ?_ | refine c_false ?_ | refine c_op (by first | exact (t_faB) | exact (t_loadB 101) | exact (t_lenNm 102) | exact t_move | exact t_lssT | fail) ?_ | fail))
          refine c_gh 200 200 (g := rowsG 12 (if true = true then (rows ++ nrows).set k (refRow rows[k] n ((nrows.map RowD.v).length + 1)) else rows ++ nrows)) (.gh (rowsG 12 (rows' ++ nrows))) (fun h => by rw [if_pos rfl, hset] at h; exact h) ?_
          refine c_draw {} 5 3 [] [] mixed (by kernel_rfl) rfl rfl ?_
          (repeat (first | refine d_op (by first | exact (t_faB) | exact (t_loadB 101) | exact (t_callO 200 pf) | exact (t_bsRaw) | exact t_move | fail) ?_ | fail))
          refine d_nil ?_
          refine q_open 70 201 (g := rawG 12 (partM n 12) ((rows' ++ nrows).map RowD.b)) (β := { r : RowD // r.ws = partM n 12 ∧ r.b ∉ (rows' ++ nrows).map RowD.b }) (fun r => .pu (pSl eRaw [r.1.v])) (fun r => .gh (row1G 12 r.1)) (fun ⟨r, h1, h2, h3, h4⟩ => ⟨⟨r, h1, h4⟩, h2, h3⟩) ?_
          rintro ⟨r, hrw, hrn⟩
          refine q_op 5 (by kernel_rfl) rfl (t_appV 103 (hE := teRaw)) ?_
          refine q_name 71 103 fun nv1 => ?_
          refine q_op 6 (by kernel_rfl) rfl t_faB ?_
          refine q_st 7 101 (by kernel_rfl) rfl (t_stV 101 103) ?_
          refine q_nil ?_ (by kernel_rfl)
          refine c_gh2 200 201 200 (.gh (rowsG 12 ((rows' ++ nrows) ++ [r]))) (rows_snoc hrn) ?_
          (repeat (first | refine c_reg ?_ | refine c_rnil ?_ | refine c_inBlock ?_ | refine c_op (by first | exact t_move | exact t_assign | exact t_add | fail) ?_ | fail))
          have hns : noteStep (textN l i) n = ⟨(textN l i).paras.set k (putRef (((textN l i).paras[k]?).getD []) n ((textN l i).notes.length + 1)), (textN l i).notes ++ [partM n 12]⟩ := by
            unfold noteStep
            rw [hfk]
          refine (ih (i + 1, pv0, nv1, rows', nrows ++ [r]) ⟨by dsimp only; omega, ?_, ?_, ?_, ?_⟩ (by dsimp only; omega)).sub ?_
          · dsimp only
            rw [hstep, hns, hget, hrows', List.map_set, hrows]
            dsimp only
            rw [hlen2, ← hnl2]
            rfl
          · dsimp only
            rw [hstep, hns, List.map_append, hnrows]
            dsimp only
            rw [List.map_cons, List.map_nil, hrw]
          · dsimp only
            rw [hrows', List.length_set]; exact hrl
          · dsimp only
            rw [List.length_append, List.length_singleton]; omega
          · dsimp only
            rw [← hv', List.map_append, List.map_cons, List.map_nil, ← List.append_assoc]
            (repeat' (first | exact trivial | refine ⟨?_, ?_⟩ | fail)) <;> (try first | exact has_rfl rfl | exact has_nil rfl | exact has_nilS rfl | exact has_gr rfl | exact has_nilGo rfl | exact has_int rfl (by first | omega | fail) | fail)
      · have hkl : k = rows.length := by omega
        have hfn : findK (textN l i).paras 0 (textN l i).paras.length = none := by
          rw [hfk, show rows.length - k = 0 by omega]
          rfl
        have hlen1 : (rows.map RowD.v).length = rows.length := by simp
        have hns : noteStep (textN l i) n = textN l i := by
          unfold noteStep
          rw [hfn]
        (repeat (first | refine c_seq ?_ | fail))
        refine c_draw0 mixed (by kernel_rfl) ?_
        (repeat (first | refine d_op (by first | exact (t_faB) | exact (t_loadB 101) | exact (t_lenNm 102) | exact t_move | exact t_pickF | exact t_lssF | fail) ?_ | refine d_no ?_ | fail))
        refine d_nil (q_nil ?_ (by kernel_rfl))
        (repeat (first | refine c_seq ?_ | refine c_reg ?_ | refine c_rnil ?_ | refine c_inBlock ?_ | refine c_exit ?_ | refine c_skip ?_ | refine c_false ?_ | refine c_op (by first | exact (t_faB) | exact (t_loadB 101) | exact (t_lenNm 102) | exact t_move | exact t_assign | exact t_add | exact t_lssF | fail) ?_ | fail))
        refine (ih (i + 1, pv0, nv0, rows, nrows) ⟨by dsimp only; omega, ?_, ?_, hrl, by dsimp only; omega⟩ (by dsimp only; omega)).sub (by repeat (first | exact trivial | refine ⟨has_rfl rfl, ?_⟩ | fail))
        · dsimp only
          rw [hstep, hns, hrows]
        · dsimp only
          rw [hstep, hns, hnrows]
    · have hic : i = c1 := by omega
      have htm : textN l i = textM l := by unfold textM; rw [hic, ← hc1', Int.toNat_natCast]
      rw [htm] at hrows hnrows
      refine c_gvSl 102 fun o1 => ?_
      refine c_gvSl 103 fun o2 => ?_
      (repeat (first | refine c_seq ?_ | refine c_reg ?_ | refine c_rnil ?_ | refine c_exit ?_ | refine c_false ?_ | refine c_op (by first | exact (t_loadAgg 101 tdT) | exact t_move | exact t_lssF | fail) ?_ | fail))
      refine c_st 100 (t_stAg 100 tdT (c := [pv0, nv0]) (fun u hu => by
        simp only [List.mem_cons, List.not_mem_nil, or_false] at hu
        rcases hu with rfl | rfl
        · exact o1
        · exact o2)) ?_
      (repeat (first | refine c_rnil ?_ | fail))
      exact c_retTx Tryd.func8 rfl 100 102 103 200 hrows hnrows
end Go.Proofs.YtedlipgopicijaaDoor
end

section
namespace Go.Proofs.YtedlipgopicijaaDoor
open Go Go.RowKit
theorem wErr_note {w : Wd} {next n : Int} (h : wErr w next n = 0) (h0 : w.note ≠ 0) : w.note = next ∧ w.note ≤ n := by
  unfold wErr at h
  split at h
  · cases h
  · split at h
    · cases h
    · split at h
      · cases h
      · rename_i h3
        refine ⟨Classical.byContradiction fun hc => h3 ⟨h0, .inl hc⟩, ?_⟩
        by_cases hc : n < w.note
        · exact absurd ⟨h0, .inr hc⟩ h3
        · omega
end Go.Proofs.YtedlipgopicijaaDoor
end

section
namespace Go.Proofs.YtedlipgopicijaaDoor
open Go Go.RowKit
def wErrB (b : Bool) (w : Wd) (next n : Int) : Int := if b = true then wErr w next n else wErr w 0 0
def chkX (b : Bool) (n : Int) (k : Int → Int) : List Wd → Int → Int
  | [], next => k next
  | w :: r, next => if wErrB b w next n ≠ 0 then wErrB b w next n else chkX b n k r (if w.note ≠ 0 then next + 1 else next)
def chkY (n : Int) (k : Int → Int) : List (List Wd) → Nat → Int → Int
  | [], _, next => k next
  | p :: r, m, next => chkX (decide (0 < m)) n (chkY n k r (m - 1)) p next
theorem chkX_true {n : Int} {k : Int → Int} : ∀ (l : List Wd) (next : Int), chkX true n k l next = chkP n k l next
  | [], next => rfl
  | w :: r, next => by simp only [chkX, chkP, wErrB, if_true, chkX_true r]
theorem wErr_zero {w : Wd} (h : wErr w 0 0 = 0) : w.note = 0 := by
  by_cases h0 : w.note = 0
  · exact h0
  · exact absurd (wErr_note h h0).1 h0
theorem chkX_false {n : Int} {k : Int → Int} : ∀ (l : List Wd) (next : Int), chkX false n k l next = chkQ (k next) l
  | [], next => rfl
  | w :: r, next => by
    simp only [chkX, chkQ, wErrB, Bool.false_eq_true, if_false]
    by_cases h : wErr w 0 0 = 0
    · simp only [h, wErr_zero h, ne_eq, not_true_eq_false, if_false]
      exact chkX_false r next
    · rw [if_pos h, if_pos h]
theorem chkY_zero {n : Int} {k : Int → Int} : ∀ (l : List (List Wd)) (next : Int), chkY n k l 0 next = chkB (k next) l
  | [], next => rfl
  | p :: r, next => by
    simp only [chkY, chkB, Nat.lt_irrefl, decide_false, chkX_false, Nat.zero_sub]
    rw [chkY_zero r next]
theorem chkX_congr {n : Int} {b : Bool} {k k' : Int → Int} (h : ∀ x, k x = k' x) : ∀ (l : List Wd) (next : Int), chkX b n k l next = chkX b n k' l next
  | [], next => h next
  | w :: r, next => by simp only [chkX, chkX_congr h r]
theorem chkY_paras {n : Int} {k : Int → Int} {ns : List (List Wd)} : ∀ (ps : List (List Wd)) (next : Int), chkY n k (ps ++ ns) ps.length next = chkA n (fun nx => chkB (k nx) ns) ps next
  | [], next => chkY_zero ns next
  | p :: r, next => by
    have e : decide (0 < (p :: r).length) = true := by simp
    simp only [List.cons_append, chkY, chkA]
    rw [e, ← chkX_true]
    refine chkX_congr (fun x => ?_) p next
    rw [List.length_cons, Nat.add_sub_cancel]
    exact chkY_paras r x
theorem chkT_eq {t : Tx} (hs : sizeM t = 0) : chkT t = chkY t.notes.length (lastK t.notes.length) (t.paras ++ t.notes) t.paras.length 1 := by
  rw [chkY_paras]
  unfold chkT
  rw [if_neg (fun h => h hs)]
theorem wErrB_7 {b : Bool} {w : Wd} {next n : Int} (h : ¬ 0 < widM w.s ∨ (w.key ≠ emp ∧ ¬ 0 < widM w.key)) : wErrB b w next n = 7 := by
  unfold wErrB wErr; simp only [if_pos h, ite_self]
theorem wErrB_5 {b : Bool} {w : Wd} {next n : Int} (h : ¬ (¬ 0 < widM w.s ∨ (w.key ≠ emp ∧ ¬ 0 < widM w.key))) (h2 : w.table ≠ 0 ∧ w.table ≠ 1) : wErrB b w next n = 5 := by
  unfold wErrB wErr; simp only [if_neg h, if_pos h2, ite_self]
theorem wErrB_0 {b : Bool} {w : Wd} {next n : Int} (h : ¬ (¬ 0 < widM w.s ∨ (w.key ≠ emp ∧ ¬ 0 < widM w.key))) (h2 : ¬ (w.table ≠ 0 ∧ w.table ≠ 1)) (h3 : w.note = 0) : wErrB b w next n = 0 := by
  unfold wErrB wErr; simp only [if_neg h, if_neg h2, h3, ne_eq, not_true_eq_false, false_and, if_false, ite_self]
theorem wErrB_n {b : Bool} {w : Wd} {next n : Int} (h : ¬ (¬ 0 < widM w.s ∨ (w.key ≠ emp ∧ ¬ 0 < widM w.key))) (h2 : ¬ (w.table ≠ 0 ∧ w.table ≠ 1)) (h3 : w.note ≠ 0) :
    wErrB b w next n = if b = false ∨ w.note ≠ next ∨ n < next then 5 else 0 := by
  have e1 : ∀ nx m : Int, wErr w nx m = if w.note ≠ 0 ∧ (w.note ≠ nx ∨ m < w.note) then 5 else 0 := fun nx m => by unfold wErr; rw [if_neg h, if_neg h2]
  unfold wErrB
  cases b
  · rw [if_neg (by decide), if_pos (.inl rfl), e1, if_pos ⟨h3, .inl h3⟩]
  · rw [if_pos rfl, e1]
    by_cases h4 : w.note = next
    · by_cases h5 : n < next
      · rw [if_pos ⟨h3, .inr (by omega)⟩, if_pos (.inr (.inr h5))]
      · rw [if_neg (fun q => q.2.elim (fun q => q h4) (fun q => h5 (by omega))), if_neg (by
          rintro (q | q | q)
          · cases q
          · exact q h4
          · exact h5 q)]
    · rw [if_pos ⟨h3, .inl h4⟩, if_pos (.inr (.inl h4))]
theorem wErrB_n5 {b : Bool} {w : Wd} {next n : Int} (h : ¬ (¬ 0 < widM w.s ∨ (w.key ≠ emp ∧ ¬ 0 < widM w.key))) (h2 : ¬ (w.table ≠ 0 ∧ w.table ≠ 1)) (h3 : w.note ≠ 0) (hc : b = false ∨ w.note ≠ next ∨ n < next) : wErrB b w next n = 5 := by
  rw [wErrB_n h h2 h3, if_pos hc]
theorem wErrB_n0 {b : Bool} {w : Wd} {next n : Int} (h : ¬ (¬ 0 < widM w.s ∨ (w.key ≠ emp ∧ ¬ 0 < widM w.key))) (h2 : ¬ (w.table ≠ 0 ∧ w.table ≠ 1)) (h3 : w.note ≠ 0) (hc : ¬ (b = false ∨ w.note ≠ next ∨ n < next)) : wErrB b w next n = 0 := by
  rw [wErrB_n h h2 h3, if_neg hc]
theorem concat2_f {a b : List (List Wd)} (h : (a.length + b.length) * 24 ≤ 140737488351232) : Fn Tryd.prog 39 [pSl (eSl (eSl eWord)) [a, b]] (pSl (eSl eWord) (a ++ b)) := by
  have := concatW_f (ls := [a, b]) (by simpa using h)
  simpa using this
theorem contains_y {f : FuncId} {q : List Wd → Bool} (hq : ∀ p, Fn Tryd.prog f [pSl eWord p] (pB (q p))) {l : List (List Wd)} {b : Bool} (h : l.any q = b) : Fn Tryd.prog 53 [pSl (eSl eWord) l, pv (.func (.func f) #[] #[])] (pB b) := h ▸ containsQ_f hq
theorem valid25_y {s : ByteArray} (h : 0 < widM s) : Fn Tryd.prog 56 [pS s] (pB true) := by
  have := valid25_f (s := s); rwa [decide_eq_true h] at this
theorem valid25_n {s : ByteArray} (h : ¬ 0 < widM s) : Fn Tryd.prog 56 [pS s] (pB false) := by
  have := valid25_f (s := s); rwa [decide_eq_false h] at this
set_option maxHeartbeats 8000000 in
theorem check25_f {t : Tx} (h48 : (t.paras.length + t.notes.length) * 24 ≤ 140737488351232) : Fn Tryd.prog 31 [pV eText t] (pI (chkT t)) := by
  refine fn_of ent31 Tryd.func31 rfl Tryd.ntmps31 rfl fun M0 w0 => ?_
  obtain ⟨r, hr⟩ : ∃ r, r = chkT t := ⟨_, rfl⟩
  rw [← hr]
  have top : ∀ c, sizeM t = c → c ≠ 0 → r = c := fun c h h0 => by rw [hr]; unfold chkT; rw [if_pos (by rw [h]; exact h0), h]
  by_cases h1 : 100 < t.paras.length
  · rw [top 2 (by unfold sizeM; rw [if_pos (.inl h1)]) (by decide)]
    (repeat (first | refine c_seq ?_ | refine c_reg ?_ | refine c_rnil ?_ | refine c_true ?_ | refine c_no ?_ | refine c_op (by first | exact t_call (h := (concat2_f h48)) | exact t_move | exact t_assign | exact t_pickT | exact t_gtrT | exact t_len | exact t_load | exact t_fa | exact t_bs | exact t_boxP | fail) ?_ | fail))
    refine c_ret1 Tryd.func31 rfl ?_
    exact fun h => h
  by_cases h2 : 100 < t.notes.length
  · rw [top 2 (by unfold sizeM; rw [if_pos (.inr h2)]) (by decide)]
    (repeat (first | refine c_seq ?_ | refine c_reg ?_ | refine c_rnil ?_ | refine c_true ?_ | refine c_yes ?_ | refine c_no ?_ | refine c_op (by first | exact t_call (h := (concat2_f h48)) | exact t_move | exact t_assign | exact t_pickT | exact t_pickF | exact t_gtrT | exact t_gtrF | exact t_len | exact t_load | exact t_fa | exact t_bs | exact t_boxP | fail) ?_ | fail))
    refine c_ret1 Tryd.func31 rfl ?_
    exact fun h => h
  have h12 : ¬ (100 < t.paras.length ∨ 100 < t.notes.length) := fun h => h.elim h1 h2
  by_cases h3 : longP (t.paras ++ t.notes) = true
  · rw [top 2 (by unfold sizeM; rw [if_neg h12, if_pos h3]) (by decide)]
    (repeat (first | refine c_seq ?_ | refine c_reg ?_ | refine c_rnil ?_ | refine c_true ?_ | refine c_yes ?_ | refine c_op (by first | exact t_call (h := (concat2_f h48)) | exact t_call (h := (contains_y (fun p => long_f) h3)) | exact t_move | exact t_assign | exact t_pickF | exact t_gtrF | exact t_len | exact t_load | exact t_fa | exact t_bs | exact t_boxP | fail) ?_ | fail))
    refine c_ret1 Tryd.func31 rfl ?_
    exact fun h => h
  have h3' : longP (t.paras ++ t.notes) = false := by simpa using h3
  by_cases h4 : noneP (t.paras ++ t.notes) = true
  · rw [top 1 (by unfold sizeM; rw [if_neg h12, if_neg h3, if_pos h4]) (by decide)]
    (repeat (first | refine c_seq ?_ | refine c_reg ?_ | refine c_rnil ?_ | refine c_skip ?_ | refine c_true ?_ | refine c_false ?_ | refine c_yes ?_ | refine c_op (by first | exact t_call (h := (concat2_f h48)) | exact t_call (h := (contains_y (fun p => long_f) h3')) | exact t_call (h := (contains_y (fun p => none_f) h4)) | exact t_move | exact t_assign | exact t_pickF | exact t_gtrF | exact t_len | exact t_load | exact t_fa | exact t_bs | exact t_boxP | fail) ?_ | fail))
    refine c_ret1 Tryd.func31 rfl ?_
    exact fun h => h
  have h4' : noneP (t.paras ++ t.notes) = false := by simpa using h4
  have hs : sizeM t = 0 := by unfold sizeM; rw [if_neg h12, if_neg h3, if_neg h4]
  obtain ⟨s1, s2, s3⟩ := size_ok hs
  rw [chkT_eq hs] at hr
  have hall : (t.paras ++ t.notes).length = t.paras.length + t.notes.length := List.length_append
  (repeat (first | refine c_seq ?_ | refine c_reg ?_ | refine c_rnil ?_ | refine c_block ?_ | refine c_skip ?_ | refine c_false ?_ | refine c_yes ?_ | refine c_op (by first | exact t_call (h := (concat2_f h48)) | exact t_call (h := (contains_y (fun p => long_f) h3')) | exact t_call (h := (contains_y (fun p => none_f) h4')) | exact t_move | exact t_assign | exact t_pickF | exact t_gtrF | exact t_len | exact t_load | exact t_fa | exact t_bs | exact t_boxP | fail) ?_ | fail))
  refine c_loop (fun x : Nat × Int => [(1, .pu (pPtr eText t)), (4, .pu (pI x.2)), (31, .pu (pSl (eSl eWord) (t.paras ++ t.notes))), (32, .pu (pI (t.paras ++ t.notes).length)), (33, .pu (pI x.1))])
    (fun x => x.1 ≤ (t.paras ++ t.notes).length ∧ r = chkY t.notes.length (lastK t.notes.length) ((t.paras ++ t.notes).drop x.1) (t.paras.length - x.1) (x.2 + 1) ∧ 0 ≤ x.2 ∧ x.2 ≤ t.notes.length) (fun x => (t.paras ++ t.notes).length - x.1) (0, 0) ⟨by simp, hr, by simp, by simp⟩ (by repeat (first | exact trivial | refine ⟨has_rfl rfl, ?_⟩ | fail)) ?_
  rintro ⟨i, c⟩ ⟨hi, hri, hn1, hn2⟩ ih
  dsimp only at hi hri hn1 hn2 ih ⊢
  by_cases hlt : i < (t.paras ++ t.notes).length
  · rw [List.drop_eq_getElem_cons hlt] at hri
    simp only [chkY] at hri
    have hpl := s3 _ (List.getElem_mem hlt)
    (repeat (first | refine c_seq ?_ | refine c_reg ?_ | refine c_rnil ?_ | refine c_block ?_ | refine c_skip ?_ | refine c_true ?_ | refine c_op (by first | exact t_move | exact t_assign | exact t_lssT | exact t_len | exact t_idxN | exact t_load | fail) ?_ | fail))
    refine c_loop (fun x : Nat × Int => [(1, .pu (pPtr eText t)), (4, .pu (pI x.2)), (5, .pu (pI i)), (31, .pu (pSl (eSl eWord) (t.paras ++ t.notes))), (32, .pu (pI (t.paras ++ t.notes).length)), (33, .pu (pI i)), (38, .pu (pSl eWord (t.paras ++ t.notes)[i])), (39, .pu (pI (t.paras ++ t.notes)[i].length)), (40, .pu (pI x.1))])
      (fun x => x.1 ≤ (t.paras ++ t.notes)[i].length ∧ r = chkX (decide (0 < t.paras.length - i)) t.notes.length (chkY t.notes.length (lastK t.notes.length) ((t.paras ++ t.notes).drop (i + 1)) (t.paras.length - i - 1)) ((t.paras ++ t.notes)[i].drop x.1) (x.2 + 1) ∧ 0 ≤ x.2 ∧ x.2 ≤ t.notes.length) (fun x => (t.paras ++ t.notes)[i].length - x.1) (0, c) ⟨by simp, hri, hn1, hn2⟩ (by repeat (first | exact trivial | refine ⟨has_rfl rfl, ?_⟩ | fail)) ?_
    rintro ⟨k, c⟩ ⟨hk, hrk, hk1, hk2⟩ ih2
    dsimp only at hk hrk hk1 hk2 ih2 ⊢
    by_cases hlk : k < (t.paras ++ t.notes)[i].length
    · rw [List.drop_eq_getElem_cons hlk] at hrk
      simp only [chkX] at hrk
      obtain ⟨w, hw⟩ : ∃ w, w = (t.paras ++ t.notes)[i][k] := ⟨_, rfl⟩
      rw [← hw] at hrk
      by_cases hb1 : ¬ 0 < widM w.s ∨ (w.key ≠ emp ∧ ¬ 0 < widM w.key)
      · rw [wErrB_7 hb1, if_pos (by decide)] at hrk
        rw [hrk]
        by_cases q1 : 0 < widM w.s
        · obtain ⟨q2, q3⟩ := hb1.resolve_left (fun h => h q1)
          subst hw
          (repeat (first | refine c_seq ?_ | refine c_reg ?_ | refine c_rnil ?_ | refine c_block ?_ | refine c_skip ?_ | refine c_true ?_ | refine c_yes ?_ | refine c_op (by first | exact t_call (h := (valid25_y q1)) | exact t_call (h := (valid25_n q3)) | exact ((t_neqStr).yes (by exact q2)) | exact t_move | exact t_assign | exact t_pickT | exact t_pickF | exact t_not | exact t_lssT | exact t_idxN | exact t_load | exact t_fa | exact t_allocV | fail) ?_ | refine c_stV ?_ | fail))
          refine c_ret1 Tryd.func31 rfl ?_
          exact fun h => h
        · subst hw
          (repeat (first | refine c_seq ?_ | refine c_reg ?_ | refine c_rnil ?_ | refine c_block ?_ | refine c_skip ?_ | refine c_true ?_ | refine c_no ?_ | refine c_noU ?_ | refine c_op (by first | exact t_call (h := (valid25_n q1)) | exact t_move | exact t_assign | exact t_pickT | exact t_not | exact t_lssT | exact t_idxN | exact t_load | exact t_fa | exact t_allocV | fail) ?_ | refine c_stV ?_ | fail))
          refine c_ret1 Tryd.func31 rfl ?_
          exact fun h => h
      · have q1 : 0 < widM w.s := Classical.byContradiction fun h => hb1 (.inl h)
        apply c_join [(1, .pu (pPtr eText t)), (4, .pu (pI c)), (5, .pu (pI i)), (31, .pu (pSl (eSl eWord) (t.paras ++ t.notes))), (32, .pu (pI (t.paras ++ t.notes).length)), (33, .pu (pI i)), (38, .pu (pSl eWord (t.paras ++ t.notes)[i])), (39, .pu (pI (t.paras ++ t.notes)[i].length)), (40, .pu (pI k)), (8, .pu (pPtr eWord w))]
        · intro meet
          by_cases q2 : w.key = emp
          · subst hw
            (repeat (first | refine c_seq ?_ | fail))
            refine c_reg ?_
            (repeat (first | refine c_seq ?_ | refine c_rnil ?_ | refine c_block ?_ | refine c_skip ?_ | refine c_true ?_ | refine c_op (by first | exact t_lssT | fail) ?_ | fail))
            (repeat (first | refine c_seq ?_ | fail))
            refine c_reg ?_
            (repeat (first | refine c_seq ?_ | refine c_rnil ?_ | refine c_op (by first | exact t_idxN | exact t_load | exact t_allocV | fail) ?_ | refine c_stV ?_ | fail))
            (repeat (first | refine c_seq ?_ | fail))
            refine c_reg ?_
            (repeat (first | refine c_seq ?_ | refine c_rnil ?_ | refine c_skip ?_ | refine c_false ?_ | refine c_yes ?_ | refine c_no ?_ | refine c_op (by first | exact t_call (h := (valid25_y q1)) | exact ((t_neqStr).no (by exact fun h => h q2)) | exact t_move | exact t_pickF | exact t_not | exact t_load | exact t_fa | fail) ?_ | fail))
            exact meet (by repeat (first | exact trivial | refine ⟨has_rfl rfl, ?_⟩ | fail))
          · have q3 : 0 < widM w.key := Classical.byContradiction fun h => hb1 (.inr ⟨q2, h⟩)
            subst hw
            (repeat (first | refine c_seq ?_ | fail))
            refine c_reg ?_
            (repeat (first | refine c_seq ?_ | refine c_rnil ?_ | refine c_block ?_ | refine c_skip ?_ | refine c_true ?_ | refine c_op (by first | exact t_lssT | fail) ?_ | fail))
            (repeat (first | refine c_seq ?_ | fail))
            refine c_reg ?_
            (repeat (first | refine c_seq ?_ | refine c_rnil ?_ | refine c_op (by first | exact t_idxN | exact t_load | exact t_allocV | fail) ?_ | refine c_stV ?_ | fail))
            (repeat (first | refine c_seq ?_ | fail))
            refine c_reg ?_
            (repeat (first | refine c_seq ?_ | refine c_rnil ?_ | refine c_skip ?_ | refine c_false ?_ | refine c_yes ?_ | refine c_op (by first | exact t_call (h := (valid25_y q1)) | exact t_call (h := (valid25_y q3)) | exact ((t_neqStr).yes (by exact q2)) | exact t_move | exact t_pickT | exact t_pickF | exact t_not | exact t_load | exact t_fa | fail) ?_ | fail))
            exact meet (by repeat (first | exact trivial | refine ⟨has_rfl rfl, ?_⟩ | fail))
        by_cases hb2 : w.table ≠ 0 ∧ w.table ≠ 1
        · rw [wErrB_5 hb1 hb2, if_pos (by decide)] at hrk
          rw [hrk]
          obtain ⟨q2, q3⟩ := hb2
          (repeat (first | refine c_seq ?_ | refine c_reg ?_ | refine c_rnil ?_ | refine c_true ?_ | refine c_yes ?_ | refine c_op (by first | exact t_move | exact t_assign | exact t_pickT | exact t_neqT | exact t_load | exact t_fa | fail) ?_ | fail))
          refine c_ret1 Tryd.func31 rfl ?_
          exact fun h => h
        apply c_join [(1, .pu (pPtr eText t)), (4, .pu (pI c)), (5, .pu (pI i)), (31, .pu (pSl (eSl eWord) (t.paras ++ t.notes))), (32, .pu (pI (t.paras ++ t.notes).length)), (33, .pu (pI i)), (38, .pu (pSl eWord (t.paras ++ t.notes)[i])), (39, .pu (pI (t.paras ++ t.notes)[i].length)), (40, .pu (pI k)), (8, .pu (pPtr eWord w))]
        · intro meet
          by_cases q2 : w.table = 0
          · (repeat (first | refine c_seq ?_ | fail))
            refine c_reg ?_
            (repeat (first | refine c_seq ?_ | refine c_rnil ?_ | refine c_skip ?_ | refine c_false ?_ | refine c_no ?_ | refine c_op (by first | exact t_move | exact t_pickF | exact t_neqF | exact t_load | exact t_fa | fail) ?_ | fail))
            exact meet (by repeat (first | exact trivial | refine ⟨has_rfl rfl, ?_⟩ | fail))
          · have q3 : w.table = 1 := Classical.byContradiction fun h => hb2 ⟨q2, h⟩
            (repeat (first | refine c_seq ?_ | fail))
            refine c_reg ?_
            (repeat (first | refine c_seq ?_ | refine c_rnil ?_ | refine c_skip ?_ | refine c_false ?_ | refine c_yes ?_ | refine c_op (by first | exact t_move | exact t_pickT | exact t_neqT | exact t_neqF | exact t_load | exact t_fa | fail) ?_ | fail))
            exact meet (by repeat (first | exact trivial | refine ⟨has_rfl rfl, ?_⟩ | fail))
        by_cases q4 : w.note = 0
        · rw [wErrB_0 hb1 hb2 q4, if_neg (by decide), if_neg (fun h => h q4)] at hrk
          (repeat (first | refine c_reg ?_ | refine c_rnil ?_ | refine c_inBlock ?_ | refine c_skip ?_ | refine c_false ?_ | refine c_op (by first | exact t_move | exact t_add | exact t_neqF | exact t_load | exact t_fa | fail) ?_ | fail))
          exact (ih2 (k + 1, c) ⟨by dsimp only; omega, hrk, hk1, hk2⟩ (by dsimp only; omega)).sub (by repeat (first | exact trivial | refine ⟨has_rfl rfl, ?_⟩ | fail))
        · by_cases q5 : t.paras.length ≤ i
          · rw [wErrB_n5 hb1 hb2 q4 (.inl (by simp; omega)), if_pos (by decide)] at hrk
            rw [hrk]
            (repeat (first | refine c_seq ?_ | refine c_reg ?_ | refine c_rnil ?_ | refine c_true ?_ | refine c_no ?_ | refine c_op (by first | exact t_move | exact t_assign | exact t_pickT | exact t_add | exact t_geqT | exact t_neqT | exact t_len | exact t_load | exact t_fa | fail) ?_ | fail))
            refine c_ret1 Tryd.func31 rfl ?_
            exact fun h => h
          by_cases q6 : w.note = c + 1
          · by_cases q7 : t.notes.length < c + 1
            · rw [wErrB_n5 hb1 hb2 q4 (.inr (.inr q7)), if_pos (by decide)] at hrk
              rw [hrk]
              (repeat (first | refine c_seq ?_ | refine c_reg ?_ | refine c_rnil ?_ | refine c_true ?_ | refine c_yes ?_ | refine c_op (by first | exact t_move | exact t_assign | exact t_pickF | exact t_add | exact t_gtrT | exact t_geqF | exact t_neqT | exact t_neqF | exact t_len | exact t_load | exact t_fa | fail) ?_ | fail))
              refine c_ret1 Tryd.func31 rfl ?_
              exact fun h => h
            · rw [wErrB_n0 hb1 hb2 q4 (by
                rintro (h | h | h)
                · simp at h; omega
                · exact h q6
                · exact q7 h), if_neg (fun h => h rfl), if_pos q4] at hrk
              (repeat (first | refine c_seq ?_ | refine c_reg ?_ | refine c_rnil ?_ | refine c_inBlock ?_ | refine c_skip ?_ | refine c_true ?_ | refine c_false ?_ | refine c_yes ?_ | refine c_op (by first | exact t_move | exact t_assign | exact t_pickF | exact t_add | exact t_gtrF | exact t_geqF | exact t_neqT | exact t_neqF | exact t_len | exact t_load | exact t_fa | fail) ?_ | fail))
              exact (ih2 (k + 1, c + 1) ⟨by dsimp only; omega, hrk, by dsimp only; omega, by dsimp only; omega⟩ (by dsimp only; omega)).sub (by repeat (first | exact trivial | refine ⟨has_rfl rfl, ?_⟩ | fail))
          · rw [wErrB_n5 hb1 hb2 q4 (.inr (.inl q6)), if_pos (by decide)] at hrk
            rw [hrk]
            (repeat (first | refine c_seq ?_ | refine c_reg ?_ | refine c_rnil ?_ | refine c_true ?_ | refine c_yes ?_ | refine c_no ?_ | refine c_op (by first | exact t_move | exact t_assign | exact t_pickT | exact t_pickF | exact t_add | exact t_geqF | exact t_neqT | exact t_len | exact t_load | exact t_fa | fail) ?_ | fail))
            refine c_ret1 Tryd.func31 rfl ?_
            exact fun h => h
    · have hd : (t.paras ++ t.notes)[i].drop k = [] := List.drop_of_length_le (by omega)
      rw [hd] at hrk
      simp only [chkX] at hrk
      (repeat (first | refine c_seq ?_ | refine c_reg ?_ | refine c_rnil ?_ | refine c_inBlock ?_ | refine c_exit ?_ | refine c_false ?_ | refine c_op (by first | exact t_move | exact t_add | exact t_lssF | fail) ?_ | fail))
      exact (ih (i + 1, c) ⟨by dsimp only; omega, hrk, hk1, hk2⟩ (by dsimp only; omega)).sub (by repeat (first | exact trivial | refine ⟨has_rfl rfl, ?_⟩ | fail))
  · have hd : (t.paras ++ t.notes).drop i = [] := List.drop_of_length_le (by omega)
    rw [hd] at hri
    simp only [chkY] at hri
    rw [hri]
    unfold lastK
    by_cases hl : c = t.notes.length
    · rw [if_neg (fun h => h (by omega))]
      (repeat (first | refine c_seq ?_ | refine c_reg ?_ | refine c_rnil ?_ | refine c_exit ?_ | refine c_skip ?_ | refine c_false ?_ | refine c_op (by first | exact t_move | exact t_assign | exact t_lssF | exact t_neqF | exact t_len | exact t_load | exact t_fa | fail) ?_ | fail))
      refine c_ret1 Tryd.func31 rfl ?_
      exact fun h => h
    · rw [if_pos (by omega)]
      (repeat (first | refine c_seq ?_ | refine c_reg ?_ | refine c_rnil ?_ | refine c_exit ?_ | refine c_true ?_ | refine c_false ?_ | refine c_op (by first | exact t_move | exact t_assign | exact t_lssF | exact t_neqT | exact t_len | exact t_load | exact t_fa | fail) ?_ | fail))
      refine c_ret1 Tryd.func31 rfl ?_
      exact fun h => h
end Go.Proofs.YtedlipgopicijaaDoor
end

section
namespace Go.Proofs.YtedlipgopicijaaDoor
open Go Go.RowKit
theorem sameInts_f {a b : List Int} : Fn Tryd.prog 35 [pSl eI a, pSl eI b] (pB (decide (a = b))) := by
  refine fn_of ent35 Tryd.func35 rfl Tryd.ntmps35 rfl fun M0 w0 => ?_
  refine c_have 0 (fun h => i_len26 h) fun hl => ?_
  by_cases hlen : a.length = b.length
  · (repeat (first | refine c_seq ?_ | refine c_reg ?_ | refine c_rnil ?_ | refine c_block ?_ | refine c_skip ?_ | refine c_false ?_ | refine c_op (by first | exact t_move | exact t_assign | exact t_neqF | exact t_len | fail) ?_ | fail))
    refine c_loop (fun i : Nat => [(0, .pu (pSl eI a)), (1, .pu (pSl eI b)), (5, .pu (pI i))]) (fun i => i ≤ a.length ∧ ∀ j (h1 : j < a.length) (h2 : j < b.length), j < i → a[j] = b[j]) (fun i => a.length - i) 0 ⟨by omega, fun _ _ _ h => by omega⟩ (by repeat (first | exact trivial | refine ⟨has_rfl rfl, ?_⟩ | fail)) fun i ⟨hi, hpre⟩ ih => ?_
    (repeat (first | refine c_seq ?_ | refine c_reg ?_ | refine c_rnil ?_ | refine c_op (by first | exact t_move | exact t_lss | exact t_len | fail) ?_ | fail))
    refine c_if (fun hlt => ?_) fun hge => ?_
    · have h1 : i < a.length := by omega
      by_cases he : a[i] = b[i]
      · (repeat (first | refine c_seq ?_ | refine c_block ?_ | refine c_skip ?_ | fail))
        refine c_draw0 mixed (by kernel_rfl) ?_
        (repeat (first | refine d_op (by first | exact t_move | exact t_neqF | exact t_idxN | exact t_load | fail) ?_ | fail))
        refine d_nil (q_nil ?_ (by kernel_rfl))
        (repeat (first | refine c_reg ?_ | refine c_rnil ?_ | refine c_inBlock ?_ | refine c_skip ?_ | refine c_false ?_ | refine c_op (by first | exact t_move | exact t_assign | exact t_add | fail) ?_ | fail))
        refine (ih (i + 1) ⟨by omega, fun j h1 h2 hj => ?_⟩ (by omega)).sub (by repeat (first | exact trivial | refine ⟨has_rfl rfl, ?_⟩ | fail))
        rcases Nat.lt_or_ge j i with h | h
        · exact hpre j h1 h2 h
        · have : j = i := by omega
          subst this
          exact he
      · have hne : a ≠ b := fun h => he (by subst h; rfl)
        rw [decide_eq_false hne]
        (repeat (first | refine c_seq ?_ | refine c_block ?_ | refine c_skip ?_ | fail))
        refine c_draw0 mixed (by kernel_rfl) ?_
        (repeat (first | refine d_op (by first | exact t_move | exact t_neqT | exact t_idxN | exact t_load | fail) ?_ | fail))
        refine d_nil (q_nil ?_ (by kernel_rfl))
        (repeat (first | refine c_seq ?_ | refine c_reg ?_ | refine c_rnil ?_ | refine c_true ?_ | refine c_op (by first | exact t_assign | fail) ?_ | fail))
        refine c_ret1 Tryd.func35 rfl ?_
        exact fun h => h
    · have heq : a = b := List.ext_getElem hlen fun j h1 h2 => hpre j h1 h2 (by omega)
      rw [decide_eq_true heq]
      (repeat (first | refine c_seq ?_ | refine c_reg ?_ | refine c_rnil ?_ | refine c_exit ?_ | refine c_op (by first | exact t_assign | fail) ?_ | fail))
      refine c_ret1 Tryd.func35 rfl ?_
      exact fun h => h
  · rw [decide_eq_false (fun h => hlen (by rw [h]))]
    (repeat (first | refine c_seq ?_ | refine c_reg ?_ | refine c_rnil ?_ | refine c_true ?_ | refine c_op (by first | exact t_move | exact t_assign | exact t_neqT | exact t_len | fail) ?_ | fail))
    refine c_ret1 Tryd.func35 rfl ?_
    exact fun h => h
def badW (x : Int) : Bool := decide (x < 1) || decide (480 < x)
theorem bad_f {x : Int} : Fn Tryd.prog 86 [pI x] (pB (badW x)) := by
  refine fn_of ent86 Tryd.func86 rfl Tryd.ntmps86 rfl fun M0 w0 => ?_
  unfold badW
  by_cases h : x < 1
  · rw [decide_eq_true h, Bool.true_or]
    (repeat (first | refine c_seq ?_ | refine c_reg ?_ | refine c_rnil ?_ | refine c_no ?_ | refine c_op (by first | exact t_move | exact t_assign | exact t_pickT | exact t_lssT | fail) ?_ | fail))
    refine c_ret1 Tryd.func86 rfl ?_
    exact fun h => h
  · rw [decide_eq_false h, Bool.false_or]
    (repeat (first | refine c_seq ?_ | refine c_reg ?_ | refine c_rnil ?_ | refine c_yes ?_ | refine c_op (by first | exact t_move | exact t_assign | exact t_pickF | exact t_lssF | exact t_gtr | fail) ?_ | fail))
    refine c_ret1 Tryd.func86 rfl ?_
    exact fun h => h
def idxB : List Int → Int → Int
  | [], _ => -1
  | x :: r, i => if badW x then i else idxB r (i + 1)
theorem idxB_any : ∀ (l : List Int) (i : Int), 0 ≤ i → (0 ≤ idxB l i ↔ l.any badW = true)
  | [], i, _ => by simp [idxB]
  | x :: r, i, h => by
    simp only [idxB, List.any_cons, Bool.or_eq_true]
    split
    · rename_i hp; simp [hp, h]
    · rename_i hp; rw [idxB_any r (i + 1) (by omega)]; simp [hp]
theorem index_f {l : List Int} : Fn Tryd.prog 95 [pSl eI l, pv (.func (.func 86) #[] #[])] (pI (idxB l 0)) := by
  refine fn_of ent95 Tryd.func95 rfl Tryd.ntmps95 rfl fun M0 w0 => ?_
  refine c_have 0 (fun h => i_len26 h) fun hl => ?_
  (repeat (first | refine c_seq ?_ | refine c_reg ?_ | refine c_rnil ?_ | refine c_block ?_ | refine c_op (by first | exact t_move | exact t_assign | exact t_len | fail) ?_ | fail))
  refine c_loop (fun i : Nat => [(0, .pu (pSl eI l)), (1, .pu (pv (.func (.func 86) #[] #[]))), (7, .pu (pI l.length)), (8, .pu (pI i))]) (fun i => i ≤ l.length ∧ idxB l 0 = idxB (l.drop i) i) (fun i => l.length - i) 0 ⟨by omega, rfl⟩ (by repeat (first | exact trivial | refine ⟨has_rfl rfl, ?_⟩ | fail)) fun i ⟨hi, hx⟩ ih => ?_
  (repeat (first | refine c_seq ?_ | refine c_reg ?_ | refine c_rnil ?_ | refine c_op (by first | exact t_lss | fail) ?_ | fail))
  refine c_if (fun hlt => ?_) fun hge => ?_
  · have h1 : i < l.length := by omega
    rw [List.drop_eq_getElem_cons h1, idxB] at hx
    (repeat (first | refine c_seq ?_ | refine c_reg ?_ | refine c_rnil ?_ | refine c_block ?_ | refine c_skip ?_ | refine c_op (by first | exact (t_callv (h := bad_f)) | exact t_move | exact t_assign | exact t_idxN | exact t_load | fail) ?_ | fail))
    refine c_ifb (fun hb => ?_) fun hb => ?_
    · rw [if_pos hb] at hx
      rw [hx]
      (repeat (first | refine c_seq ?_ | refine c_reg ?_ | refine c_rnil ?_ | refine c_op (by first | exact t_move | exact t_assign | fail) ?_ | fail))
      refine c_ret1 Tryd.func95 rfl ?_
      exact fun h => h
    · rw [if_neg (by rw [hb]; exact Bool.false_ne_true)] at hx
      (repeat (first | refine c_reg ?_ | refine c_rnil ?_ | refine c_inBlock ?_ | refine c_skip ?_ | refine c_op (by first | exact t_move | exact t_add | fail) ?_ | fail))
      exact (ih (i + 1) ⟨by omega, by rw [hx]; rfl⟩ (by omega)).sub (by repeat (first | exact trivial | refine ⟨has_rfl rfl, ?_⟩ | fail))
  · have : i = l.length := by omega
    subst this
    rw [List.drop_length, idxB] at hx
    rw [hx]
    (repeat (first | refine c_seq ?_ | refine c_reg ?_ | refine c_rnil ?_ | refine c_exit ?_ | refine c_op (by first | exact t_assign | fail) ?_ | fail))
    refine c_ret1 Tryd.func95 rfl ?_
    exact fun h => h
theorem contains_f {l : List Int} : Fn Tryd.prog 85 [pSl eI l, pv (.func (.func 86) #[] #[])] (pB (l.any badW)) := by
  refine fn_of ent85 Tryd.func85 rfl Tryd.ntmps85 rfl fun M0 w0 => ?_
  have h := idxB_any l 0 (Int.le_refl _)
  cases hb : l.any badW with
  | true =>
    have h2 := h.2 hb
    (repeat (first | refine c_seq ?_ | refine c_reg ?_ | refine c_rnil ?_ | refine c_op (by first | exact t_call (h := index_f) | exact t_move | exact t_assign | exact t_geqT | fail) ?_ | fail))
    refine c_ret1 Tryd.func85 rfl ?_
    exact fun h => h
  | false =>
    have h2 : idxB l 0 < 0 := by
      rcases Int.lt_or_le (idxB l 0) 0 with h3 | h3
      · exact h3
      · rw [h.1 h3] at hb; cases hb
    (repeat (first | refine c_seq ?_ | refine c_reg ?_ | refine c_rnil ?_ | refine c_op (by first | exact t_call (h := index_f) | exact t_move | exact t_assign | exact t_geqF | fail) ?_ | fail))
    refine c_ret1 Tryd.func85 rfl ?_
    exact fun h => h
theorem chk26_eq (w : List Int) (m : Int) : chk26 w m = if 500 < (w.length : Int) then 2 else if m < 500 ∨ 2000 < m then 5 else if w.any badW then 5 else 0 := by
  unfold chk26 okW
  have : (w.any fun x => decide (x < 1) || decide (480 < x)) = w.any badW := rfl
  rw [this]
  cases w.any badW <;> simp
theorem check_f {w : List Int} {m : Int} : Fn Tryd.prog 62 [pSl eI w, pI m] (pI (chk26 w m)) := by
  refine fn_of ent62 Tryd.func62 rfl Tryd.ntmps62 rfl fun M0 w0 => ?_
  rw [chk26_eq]
  by_cases h1 : 500 < (w.length : Int)
  · rw [if_pos h1]
    (repeat (first | refine c_seq ?_ | refine c_reg ?_ | refine c_rnil ?_ | refine c_block ?_ | refine c_true ?_ | refine c_op (by first | exact t_move | exact t_assign | exact t_gtrT | exact t_len | fail) ?_ | fail))
    refine c_ret1 Tryd.func62 rfl ?_
    exact fun h => h
  rw [if_neg h1]
  by_cases h2 : m < 500
  · rw [if_pos (.inl h2)]
    (repeat (first | refine c_seq ?_ | refine c_reg ?_ | refine c_rnil ?_ | refine c_block ?_ | refine c_true ?_ | refine c_false ?_ | refine c_no ?_ | refine c_op (by first | exact t_move | exact t_assign | exact t_pickT | exact t_lssT | exact t_gtrF | exact t_len | fail) ?_ | fail))
    refine c_ret1 Tryd.func62 rfl ?_
    exact fun h => h
  by_cases h3 : 2000 < m
  · rw [if_pos (.inr h3)]
    (repeat (first | refine c_seq ?_ | refine c_reg ?_ | refine c_rnil ?_ | refine c_block ?_ | refine c_true ?_ | refine c_false ?_ | refine c_yes ?_ | refine c_op (by first | exact t_move | exact t_assign | exact t_pickF | exact t_lssF | exact t_gtrT | exact t_gtrF | exact t_len | fail) ?_ | fail))
    refine c_ret1 Tryd.func62 rfl ?_
    exact fun h => h
  rw [if_neg (by omega)]
  cases hb : w.any badW with
  | true =>
    rw [if_pos rfl]
    have hc := contains_f (l := w)
    rw [hb] at hc
    (repeat (first | refine c_seq ?_ | refine c_reg ?_ | refine c_rnil ?_ | refine c_block ?_ | refine c_true ?_ | refine c_false ?_ | refine c_yes ?_ | refine c_op (by first | exact t_call (h := hc) | exact t_move | exact t_assign | exact t_pickF | exact t_lssF | exact t_gtrF | exact t_len | fail) ?_ | fail))
    refine c_ret1 Tryd.func62 rfl ?_
    exact fun h => h
  | false =>
    rw [if_neg Bool.false_ne_true]
    have hc := contains_f (l := w)
    rw [hb] at hc
    (repeat (first | refine c_seq ?_ | refine c_reg ?_ | refine c_rnil ?_ | refine c_block ?_ | refine c_inBlock ?_ | refine c_skip ?_ | refine c_false ?_ | refine c_yes ?_ | refine c_op (by first | exact t_call (h := hc) | exact t_move | exact t_assign | exact t_pickF | exact t_lssF | exact t_gtrF | exact t_len | fail) ?_ | fail))
    refine c_ret1 Tryd.func62 rfl ?_
    exact fun h => h
theorem slk_bd {m : Int} : ∀ {l : List Int} {k : Nat}, l.length ≤ k → (∀ x ∈ l, 1 ≤ x ∧ x ≤ 480) → m + 6 - 486 * k ≤ slk m l ∧ slk m l ≤ m + 6
  | [], k, _, _ => by rw [slk_nil]; omega
  | x :: l, k, hk, h => by
    obtain ⟨k, rfl⟩ : ∃ j, k = j + 1 := ⟨k - 1, by simp at hk; omega⟩
    have h1 := h x (by simp)
    have := slk_bd (m := m - (x + 6)) (l := l) (k := k) (by simpa using hk) (fun y hy => h y (by simp [hy]))
    rw [slk_cons]
    omega
theorem slack_f {l : List Int} {m : Int} (hm : 0 ≤ m ∧ m ≤ 2000) (hl : l.length ≤ 500) (hw : ∀ x ∈ l, 1 ≤ x ∧ x ≤ 480) : Fn Tryd.prog 63 [pSl eI l, pI m] (pI (slk m l)) := by
  refine fn_of ent63 Tryd.func63 rfl Tryd.ntmps63 rfl fun M0 w0 => ?_
  (repeat (first | refine c_seq ?_ | refine c_reg ?_ | refine c_rnil ?_ | refine c_block ?_ | refine c_op (by first | exact t_move | exact t_assign | exact t_add | exact t_len | fail) ?_ | fail))
  refine c_loop (fun i : Nat => [(5, .pu (pI (slk m (l.take i)))), (10, .pu (pSl eI l)), (11, .pu (pI l.length)), (12, .pu (pI i))]) (fun i => i ≤ l.length) (fun i => l.length - i) 0 (by omega) ⟨has_int rfl (by rw [List.take_zero, slk_nil]), (by repeat (first | exact trivial | refine ⟨has_rfl rfl, ?_⟩ | fail))⟩ fun i hi ih => ?_
  (repeat (first | refine c_seq ?_ | refine c_reg ?_ | refine c_rnil ?_ | refine c_op (by first | exact t_lss | fail) ?_ | fail))
  refine c_if (fun hlt => ?_) fun hge => ?_
  · have h1 : i < l.length := by omega
    have h2 := slk_take_succ m l i h1
    have h3 := hw _ (List.getElem_mem h1)
    have h4 := slk_bd (m := m) (l := l.take i) (k := 500) (by rw [List.length_take]; omega) (fun x hx => hw x (List.mem_of_mem_take hx))
    (repeat (first | refine c_seq ?_ | refine c_reg ?_ | refine c_rnil ?_ | refine c_block ?_ | refine c_inBlock ?_ | refine c_skip ?_ | refine c_op (by first | exact t_move | exact t_assign | exact t_add | exact t_sub | exact t_idxN | exact t_load | fail) ?_ | fail))
    exact (ih (i + 1) (by omega) (by omega)).sub (by repeat (first | exact trivial | refine ⟨has_rfl rfl, ?_⟩ | refine ⟨has_int rfl (by first | omega | fail), ?_⟩))
  · have : i = l.length := by omega
    subst this
    rw [List.take_length]
    (repeat (first | refine c_seq ?_ | refine c_reg ?_ | refine c_rnil ?_ | refine c_exit ?_ | refine c_op (by first | exact t_move | exact t_assign | fail) ?_ | fail))
    refine c_ret1 Tryd.func63 rfl ?_
    exact fun h => h
end Go.Proofs.YtedlipgopicijaaDoor
end

section
namespace Go.Proofs.YtedlipgopicijaaDoor
open Go Go.RowKit
theorem ordE_len {n : Int} : ∀ {l : List Int} {a : Int}, ordE n a l = true → (l.length : Int) ≤ n - a
  | [], a, h => by simp [ordE] at h; simp; omega
  | e :: r, a, h => by
    simp only [ordE, Bool.and_eq_true, decide_eq_true_eq] at h
    have := ordE_len h.2
    simp only [List.length_cons]
    omega
theorem seg_mem {w : List Int} {a b : Int} : ∀ x ∈ seg w a b, x ∈ w := fun _ hx => List.mem_of_mem_drop (List.mem_of_mem_take hx)
theorem seg_len {w : List Int} {a b : Int} : (seg w a b).length ≤ w.length := by
  unfold seg
  rw [List.length_take, List.length_drop]
  omega
theorem cost_eq {w ends : List Int} {m c e : Int} (h0 : chk26 w m = 0) (ho : ordE w.length 0 ends = true) (hc : (match costG w m 0 ends with | some c => (c, (0 : Int)) | none => (0, 9)) = (c, e)) : costM w m ends = (c, e) := by
  unfold costM
  rw [if_neg (by omega), if_pos ho]
  exact hc
set_option maxHeartbeats 1000000 in
theorem cost_f {w ends : List Int} {m : Int} : Fn Tryd.prog 37 [pSl eI w, pI m, pSl eI ends] (pT2 (pI (costM w m ends).1) (pI (costM w m ends).2)) := by
  refine fn_of ent37 Tryd.func37 rfl Tryd.ntmps37 rfl fun M0 w0 => ?_
  refine c_have 0 (fun h => i_len26 h) fun hl1 => ?_
  refine c_have 2 (fun h => i_len26 h) fun hl2 => ?_
  by_cases hchk : chk26 w m = 0
  case neg =>
    have e : costM w m ends = (0, chk26 w m) := by unfold costM; rw [if_pos hchk]
    rw [e]
    (repeat (first | refine c_seq ?_ | refine c_reg ?_ | refine c_rnil ?_ | refine c_true ?_ | refine c_op (by first | exact t_call (h := check_f) | exact t_move | exact t_assign | exact t_neqT | fail) ?_ | fail))
    refine c_ret2 Tryd.func37 rfl ?_
    exact fun h1 h2 => ⟨_, _, rfl, h1, h2⟩
  obtain ⟨hn, hm1, hm2, hw⟩ := chk26_ok hchk
  (repeat (first | refine c_seq ?_ | refine c_reg ?_ | refine c_rnil ?_ | refine c_block ?_ | refine c_skip ?_ | refine c_false ?_ | refine c_op (by first | exact t_call (h := check_f) | exact t_move | exact t_assign | exact t_neqF | exact t_len | fail) ?_ | fail))
  refine c_loop (fun x : Nat × Int => [(0, .pu (pSl eI w)), (1, .pu (pI m)), (2, .pu (pSl eI ends)), (9, .pu (pI x.2)), (23, .pu (pSl eI ends)), (24, .pu (pI ends.length)), (25, .pu (pI x.1))])
    (fun x => x.1 ≤ ends.length ∧ ordE w.length 0 ends = ordE w.length x.2 (ends.drop x.1)) (fun x => ends.length - x.1) (0, 0) ⟨Nat.zero_le _, rfl⟩ (by repeat (first | exact trivial | refine ⟨has_rfl rfl, ?_⟩ | fail)) ?_
  rintro ⟨k, last⟩ ⟨hk, hord⟩ ih
  dsimp only at hk hord ih ⊢
  (repeat (first | refine c_seq ?_ | refine c_reg ?_ | refine c_rnil ?_ | refine c_op (by first | exact t_lss | fail) ?_ | fail))
  refine c_if (fun hlt => ?_) fun hge => ?_
  · have hk2 : k < ends.length := by omega
    rw [List.drop_eq_getElem_cons hk2, ordE] at hord
    by_cases hle : ends[k] ≤ last
    · have e : costM w m ends = (0, 12) := by
        unfold costM
        rw [if_neg (by omega), if_neg (by rw [hord, decide_eq_false (by omega)]; simp)]
      rw [e]
      (repeat (first | refine c_seq ?_ | refine c_reg ?_ | refine c_rnil ?_ | refine c_block ?_ | refine c_skip ?_ | refine c_true ?_ | refine c_op (by first | exact t_move | exact t_assign | exact t_leqT | exact t_idxN | exact t_load | fail) ?_ | fail))
      refine c_ret2 Tryd.func37 rfl ?_
      exact fun h1 h2 => ⟨_, _, rfl, h1, h2⟩
    · rw [decide_eq_true (by omega), Bool.true_and] at hord
      (repeat (first | refine c_seq ?_ | refine c_reg ?_ | refine c_rnil ?_ | refine c_block ?_ | refine c_inBlock ?_ | refine c_skip ?_ | refine c_false ?_ | refine c_op (by first | exact t_move | exact t_assign | exact t_add | exact t_leqF | exact t_idxN | exact t_load | fail) ?_ | fail))
      exact (ih (k + 1, ends[k]) ⟨by dsimp only; omega, hord⟩ (by dsimp only; omega)).sub (by repeat (first | exact trivial | refine ⟨has_rfl rfl, ?_⟩ | fail))
  have hke : k = ends.length := by omega
  subst hke
  rw [List.drop_length, ordE] at hord
  by_cases hlast : last = w.length
  case neg =>
    have e : costM w m ends = (0, 12) := by
      unfold costM
      rw [if_neg (by omega), if_neg (by rw [hord, decide_eq_false hlast]; exact Bool.false_ne_true)]
    rw [e]
    (repeat (first | refine c_seq ?_ | refine c_reg ?_ | refine c_rnil ?_ | refine c_exit ?_ | refine c_true ?_ | refine c_op (by first | exact t_move | exact t_assign | exact t_neqT | exact t_len | fail) ?_ | fail))
    refine c_ret2 Tryd.func37 rfl ?_
    exact fun h1 h2 => ⟨_, _, rfl, h1, h2⟩
  rw [decide_eq_true hlast] at hord
  have hel := ordE_len hord
  (repeat (first | refine c_seq ?_ | refine c_reg ?_ | refine c_rnil ?_ | refine c_block ?_ | refine c_exit ?_ | refine c_skip ?_ | refine c_false ?_ | refine c_op (by first | exact t_move | exact t_assign | exact t_neqF | exact t_len | fail) ?_ | fail))
  refine c_loop (fun x : Nat × Int × Int => [(0, .pu (pSl eI w)), (1, .pu (pI m)), (2, .pu (pSl eI ends)), (12, .pu (pI x.2.2)), (13, .pu (pI x.2.1)), (38, .pu (pSl eI ends)), (39, .pu (pI ends.length)), (40, .pu (pI x.1))])
    (fun x => x.1 ≤ ends.length ∧ 0 ≤ x.2.1 ∧ ordE w.length x.2.1 (ends.drop x.1) = true ∧ 0 ≤ x.2.2 ∧ x.2.2 ≤ 4024036 * x.1 ∧ costG w m 0 ends = (costG w m x.2.1 (ends.drop x.1)).map fun c => x.2.2 + c) (fun x => ends.length - x.1) (0, 0, 0)
    ⟨Nat.zero_le _, Int.le_refl _, hord, Int.le_refl _, by simp, by simp⟩ (by repeat (first | exact trivial | refine ⟨has_rfl rfl, ?_⟩ | fail)) ?_
  rintro ⟨k, from_, cost⟩ ⟨hk, hf0, ho, hc0, hc1, hcost⟩ ih
  dsimp only at hk hf0 ho hc0 hc1 hcost ih ⊢
  (repeat (first | refine c_seq ?_ | refine c_reg ?_ | refine c_rnil ?_ | refine c_op (by first | exact t_lss | fail) ?_ | fail))
  refine c_if (fun hlt => ?_) fun hge => ?_
  · have hk2 : k < ends.length := by omega
    rw [List.drop_eq_getElem_cons hk2] at ho hcost
    simp only [ordE, Bool.and_eq_true, decide_eq_true_eq] at ho
    obtain ⟨ho1, ho2⟩ := ho
    have hen := (ordE_le ho2).1
    have hs1 : (seg w from_ ends[k]).length ≤ 500 := Nat.le_trans seg_len hn
    have hs2 : ∀ x ∈ seg w from_ ends[k], 1 ≤ x ∧ x ≤ 480 := fun x hx => hw x (seg_mem x hx)
    have hs3 := slk_bd (m := m) hs1 hs2
    rw [costG] at hcost
    (repeat (first | refine c_seq ?_ | refine c_reg ?_ | refine c_rnil ?_ | refine c_block ?_ | refine c_skip ?_ | refine c_op (by first | exact (t_sliceM) | exact t_call (h := (slack_f (l := seg w from_ ends[k]) (by omega) hs1 hs2)) | exact t_move | exact t_assign | exact t_lss | exact t_idxN | exact t_load | fail) ?_ | fail))
    refine c_if (fun hneg => ?_) fun hpos => ?_
    · rw [if_pos hneg, Option.map_none] at hcost
      rw [cost_eq (c := 0) (e := 9) hchk hord (by rw [hcost])]
      (repeat (first | refine c_seq ?_ | refine c_reg ?_ | refine c_rnil ?_ | refine c_op (by first | exact t_assign | fail) ?_ | fail))
      refine c_ret2 Tryd.func37 rfl ?_
      exact fun h1 h2 => ⟨_, _, rfl, h1, h2⟩
    rw [if_neg hpos] at hcost
    have hsq0 := sq_nonneg (slk m (seg w from_ ends[k]))
    have hsq1 : slk m (seg w from_ ends[k]) * slk m (seg w from_ ends[k]) ≤ 4024036 := Int.le_trans (Int.mul_le_mul (show _ ≤ (2006 : Int) by omega) (show _ ≤ (2006 : Int) by omega) (by omega) (by omega)) (by decide)
    by_cases hmore : k + 1 < ends.length
    · have hne : ends.drop (k + 1) ≠ [] := fun h => by have := congrArg List.length h; rw [List.length_drop, List.length_nil] at this; omega
      rw [if_neg hne, Option.map_map] at hcost
      (repeat (first | refine c_seq ?_ | refine c_reg ?_ | refine c_rnil ?_ | refine c_inBlock ?_ | refine c_skip ?_ | refine c_true ?_ | refine c_op (by first | exact (t_mul) | exact t_move | exact t_assign | exact t_add | exact t_lssT | exact t_len | fail) ?_ | fail))
      refine (ih (k + 1, ends[k], cost + slk m (seg w from_ ends[k]) * slk m (seg w from_ ends[k])) ⟨by dsimp only; omega, by dsimp only; omega, ho2, by dsimp only; omega, by dsimp only; omega, ?_⟩ (by dsimp only; omega)).sub (by repeat (first | exact trivial | refine ⟨has_rfl rfl, ?_⟩ | fail))
      rw [hcost]
      congr 1
      funext c
      dsimp only [Function.comp]
      omega
    · have hne : ends.drop (k + 1) = [] := List.drop_of_length_le (by omega)
      rw [if_pos hne, Option.map_some] at hcost
      (repeat (first | refine c_seq ?_ | refine c_reg ?_ | refine c_rnil ?_ | refine c_inBlock ?_ | refine c_skip ?_ | refine c_false ?_ | refine c_op (by first | exact t_move | exact t_assign | exact t_add | exact t_lssF | exact t_len | fail) ?_ | fail))
      refine (ih (k + 1, ends[k], cost) ⟨by dsimp only; omega, by dsimp only; omega, ho2, hc0, by dsimp only; omega, ?_⟩ (by dsimp only; omega)).sub (by repeat (first | exact trivial | refine ⟨has_rfl rfl, ?_⟩ | fail))
      rw [hcost, hne, costG]
      rfl
  have hke : k = ends.length := by omega
  subst hke
  rw [List.drop_length, costG, Option.map_some, Int.add_zero] at hcost
  rw [cost_eq (c := cost) (e := 0) hchk hord (by rw [hcost])]
  (repeat (first | refine c_seq ?_ | refine c_reg ?_ | refine c_rnil ?_ | refine c_exit ?_ | refine c_op (by first | exact t_move | exact t_assign | fail) ?_ | fail))
  refine c_ret2 Tryd.func37 rfl ?_
  exact fun h1 h2 => ⟨_, _, rfl, h1, h2⟩
end Go.Proofs.YtedlipgopicijaaDoor
end

section
namespace Go.Proofs.YtedlipgopicijaaDoor
open Go Go.RowKit
theorem has_pu {G : TF} {t : Nat} {p q : Pub} (h : tlook G t = some (.pu p)) (e : p = q) : Has G t (.pu q) := e ▸ has_rfl h
theorem has_rwE {G : TF} {t : Nat} {α : Type} {E : Enc α} {b tag : Nat} {l l' : List α} {ty : TypeId} (h : tlook G t = some (.rw b tag E l ty)) (e : l = l') : Has G t (.rw b tag E l' ty) := e ▸ has_rfl h
section
variable {P : Program} {f : FuncId} {N : Nat} {M0 : Mut} {w0 : World} {R : Value → World → Prop} {G : TF} {k : List Item}
theorem c_scope {c : Code} (h : Rt P f N M0 w0 (.code c :: .inScope c :: k) G R) : Rt P f N M0 w0 (.code (.scope c) :: k) G R := ⟨fun hr hf => ⟨fun a ha => ((h.out hr hf).out a ha).step fun _ _ => .one step_scope⟩⟩
theorem c_inScope {c : Code} (h : Rt P f N M0 w0 k G R) : Rt P f N M0 w0 (.inScope c :: k) G R := ⟨fun hr hf => ⟨fun a ha => ((h.out hr hf).out a ha).step fun _ _ => .one step_inScope⟩⟩
end
section
variable {P : Program} {N : Nat} {G : TF} {d : Option Tmp} {ty : TypeId} {pos : String} {aft : Array Edge} {g : Option (Nat × Bool)}
theorem t_idxRN {α : Type} {E : Enc α} {x i : Operand} {b len tag : Nat} {l : List α} {t e : TypeId} {k : IntKind} {n : Nat} (key : Nat) (hx : topP G x = some (pSr b len) := by rfl) (hi : topP G i = some (pK k (n : Int)) := by rfl)
    (hg : tlook G key = some (.rw b tag E l e) := by rfl) (ht : USl P t e := by infer_instance) (hE : TEc P e E := by infer_instance) (h0 : n < len := by omega) :
    TOp P N ⟨d, .indexAddr t x i, ty, pos, aft, g⟩ G [] (.pu (pRo b E n)) := t_idxR key hx hi hg ht hE (by omega)
end
def rowC (m : Int) (w : List Int) (k : Nat) : List Int := List.replicate k 0 ++ (dpl m (w.drop k) k).map (·.1)
def rowE (m : Int) (w : List Int) (k : Nat) : List Int := List.replicate k 0 ++ (dpl m (w.drop k) k).map (·.2)
section
variable {m : Int} {w : List Int}
theorem rowC_len {k : Nat} (hk : k ≤ w.length) : (rowC m w k).length = w.length + 1 := by
  unfold rowC
  rw [List.length_append, List.length_replicate, List.length_map, dpl_len, List.length_drop]
  omega
theorem rowE_len {k : Nat} (hk : k ≤ w.length) : (rowE m w k).length = w.length + 1 := by
  unfold rowE
  rw [List.length_append, List.length_replicate, List.length_map, dpl_len, List.length_drop]
  omega
theorem dpl_at {k j : Nat} (hk : k ≤ w.length) (hj : j ≤ w.length - k) : (dpl m (w.drop k) k)[j]? = some (at26 (dpl m w 0) (k + j)) := by
  rw [at_drop m w k j hk]
  unfold at26
  have hl := dpl_len m (w.drop k) k
  rw [List.length_drop] at hl
  rw [List.getElem?_eq_getElem (by omega), Option.getD_some]
theorem rowC_get {k j : Nat} (hk : k ≤ j) (hj : j ≤ w.length) : (rowC m w k)[j]? = some (at26 (dpl m w 0) j).1 := by
  unfold rowC
  rw [List.getElem?_append_right (by simpa using hk), List.length_replicate, List.getElem?_map, dpl_at (by omega) (by omega), show k + (j - k) = j by omega]
  rfl
theorem rowE_get {k j : Nat} (hk : k ≤ j) (hj : j ≤ w.length) : (rowE m w k)[j]? = some (at26 (dpl m w 0) j).2 := by
  unfold rowE
  rw [List.getElem?_append_right (by simpa using hk), List.length_replicate, List.getElem?_map, dpl_at (by omega) (by omega), show k + (j - k) = j by omega]
  rfl
theorem dpl_head {i : Nat} (hi : i < w.length) : dpl m (w.drop i) i = at26 (dpl m w 0) i :: dpl m (w.drop (i + 1)) (i + 1 : Nat) := by
  have h0 := dpl_at (m := m) (w := w) (k := i) (j := 0) (by omega) (by omega)
  have hd := dpl_drop m (w.drop i) i 1 (by rw [List.length_drop]; omega)
  rw [List.drop_drop] at hd
  have hl := dpl_len m (w.drop i) i
  cases hc : dpl m (w.drop i) i with
  | nil => rw [hc] at hl; simp at hl
  | cons p r =>
    rw [hc] at h0 hd
    simp only [List.getElem?_cons_zero, Nat.add_zero, Option.some.injEq] at h0
    simp only [List.drop_succ_cons, List.drop_zero] at hd
    rw [h0, hd]
    rfl
theorem rowC_set {i : Nat} (hi : i < w.length) : (rowC m w (i + 1)).set i (at26 (dpl m w 0) i).1 = rowC m w i := by
  unfold rowC
  rw [dpl_head hi, List.map_cons, List.replicate_succ', List.append_assoc, List.set_append_right _ _ (by simp), List.length_replicate, Nat.sub_self]
  rfl
theorem rowE_set {i : Nat} (hi : i < w.length) : (rowE m w (i + 1)).set i (at26 (dpl m w 0) i).2 = rowE m w i := by
  unfold rowE
  rw [dpl_head hi, List.map_cons, List.replicate_succ', List.append_assoc, List.set_append_right _ _ (by simp), List.length_replicate, Nat.sub_self]
  rfl
theorem rowC_end : rowC m w w.length = List.replicate (w.length + 1) 0 := by
  unfold rowC
  rw [List.drop_length, dpl, List.replicate_succ']
  rfl
theorem rowE_end : rowE m w w.length = List.replicate (w.length + 1) 0 := by
  unfold rowE
  rw [List.drop_length, dpl, List.replicate_succ']
  rfl
theorem at_inn {i : Nat} (hi : i < w.length) : at26 (dpl m w 0) i = inn m (w.drop i) (dpl m (w.drop (i + 1)) (i + 1 : Nat)) (i + 1) (m + 6) (-1) 0 := by
  have := dpl_head (m := m) hi
  rw [List.drop_eq_getElem_cons hi, dpl] at this
  have := (List.cons.inj this).1
  rw [List.drop_eq_getElem_cons hi]
  exact this.symm
theorem inn_step {i kk : Nat} (hi : i + kk < w.length) {j s c e : Int} : inn m ((w.drop i).drop kk) ((dpl m (w.drop (i + 1)) (i + 1 : Nat)).drop kk) j s c e =
    if s - (w[i + kk] + 6) < 0 then (c, e)
    else if i + kk + 1 = w.length then (0, j)
    else if c < 0 ∨ (s - (w[i + kk] + 6)) * (s - (w[i + kk] + 6)) + (at26 (dpl m w 0) (i + 1 + kk)).1 ≤ c then
      inn m ((w.drop i).drop (kk + 1)) ((dpl m (w.drop (i + 1)) (i + 1 : Nat)).drop (kk + 1)) (j + 1) (s - (w[i + kk] + 6)) ((s - (w[i + kk] + 6)) * (s - (w[i + kk] + 6)) + (at26 (dpl m w 0) (i + 1 + kk)).1) j
    else inn m ((w.drop i).drop (kk + 1)) ((dpl m (w.drop (i + 1)) (i + 1 : Nat)).drop (kk + 1)) (j + 1) (s - (w[i + kk] + 6)) c e := by
  have h1 : (w.drop i).drop kk = w[i + kk] :: (w.drop i).drop (kk + 1) := by
    rw [List.drop_eq_getElem_cons (by rw [List.length_drop]; omega), List.getElem_drop]
  have hg := dpl_at (m := m) (w := w) (k := i + 1) (j := kk) (by omega) (by omega)
  have hl := dpl_len m (w.drop (i + 1)) (i + 1 : Nat)
  rw [List.length_drop] at hl
  obtain ⟨q1, q2⟩ := List.getElem?_eq_some_iff.1 hg
  have h2 : (dpl m (w.drop (i + 1)) (i + 1 : Nat)).drop kk = at26 (dpl m w 0) (i + 1 + kk) :: (dpl m (w.drop (i + 1)) (i + 1 : Nat)).drop (kk + 1) := by
    rw [List.drop_eq_getElem_cons q1, q2]
  rw [h1, h2, inn]
  have h3 : (w.drop i).drop (kk + 1) = [] ↔ i + kk + 1 = w.length := by
    rw [List.drop_drop, List.drop_eq_nil_iff]
    omega
  by_cases he : i + kk + 1 = w.length
  · rw [if_pos (h3.2 he), if_pos he]
  · rw [if_neg (fun h => he (h3.1 h)), if_neg he]
end
theorem at_bd {m : Int} (hm : 500 ≤ m ∧ m ≤ 2000) {w : List Int} (hw : ∀ x ∈ w, 1 ≤ x ∧ x ≤ 480) : ∀ (d j : Nat), j ≤ w.length → w.length ≤ j + d → 0 ≤ (at26 (dpl m w 0) j).1 ∧ (at26 (dpl m w 0) j).1 ≤ 4024036 * d
  | 0, j, h1, h2 => by
    have : j = w.length := by omega
    subst this
    have := dpl_at (m := m) (w := w) (k := w.length) (j := 0) (by omega) (by omega)
    rw [List.drop_length, dpl] at this
    simp only [List.getElem?_cons_zero, Option.some.injEq, Nat.add_zero] at this
    rw [← this]
    simp
  | d + 1, j, h1, h2 => by
    rcases Nat.eq_or_lt_of_le h1 with h | h
    · have := at_bd hm hw 0 j h1 (by omega)
      omega
    · have hB := at_best m hm.1 hw j h
      have hul : (w.drop j).length = w.length - j := List.length_drop
      have hlo := hB.lo
      have hhi := hB.hi
      obtain ⟨k, hk⟩ : ∃ k : Nat, (at26 (dpl m w 0) j).2 = ((j + k : Nat) : Int) := ⟨((at26 (dpl m w 0) j).2 - j).toNat, by omega⟩
      have heq := hB.eq
      have hfit := hB.fit
      rw [hk] at heq hfit
      rw [show (((j + k : Nat) : Int) - (j : Int)).toNat = k by omega] at heq hfit
      rw [cand_at m w j k h (by omega)] at heq
      split at heq
      · omega
      · have ih := at_bd hm hw d (j + k) (by omega) (by omega)
        have hsl := slk_bd (m := m) (l := (w.drop j).take k) (k := (w.drop j).length) (by rw [List.length_take]; omega) (fun x hx => hw x (List.mem_of_mem_drop (List.mem_of_mem_take hx)))
        have h3 := sq_nonneg (slk m ((w.drop j).take k))
        have h4 : slk m ((w.drop j).take k) * slk m ((w.drop j).take k) ≤ 4024036 := Int.le_trans (Int.mul_le_mul (show _ ≤ (2006 : Int) by omega) (show _ ≤ (2006 : Int) by omega) (by omega) (by omega)) (by decide)
        omega
theorem set_same {l : List Int} {i : Nat} {v : Int} (h : l[i]? = some v) : l.set i v = l := by
  apply List.ext_getElem?
  intro j
  rw [List.getElem?_set]
  split
  · rename_i hj
    subst hj
    obtain ⟨h1, _⟩ := List.getElem?_eq_some_iff.1 h
    rw [if_pos h1, h]
  · rfl
theorem rowC_zero {m : Int} {w : List Int} {i : Nat} (_hi : i < w.length) : (rowC m w (i + 1))[i]? = some 0 := by
  unfold rowC
  rw [List.getElem?_append_left (by simp)]
  simp
theorem rowE_zero {m : Int} {w : List Int} {i : Nat} (_hi : i < w.length) : (rowE m w (i + 1))[i]? = some 0 := by
  unfold rowE
  rw [List.getElem?_append_left (by simp)]
  simp
set_option maxRecDepth 8000 in
set_option maxHeartbeats 4000000 in
theorem ends_f {w : List Int} {m : Int} : Fn Tryd.prog 36 [pSl eI w, pI m] (pT2 (pSl eI (if chk26 w m = 0 then endsM w m else [])) (pI (chk26 w m))) := by
  refine fn_of ent36 Tryd.func36 rfl Tryd.ntmps36 rfl fun M0 w0 => ?_
  refine c_have 0 (fun h => i_len26 h) fun hl1 => ?_
  by_cases hchk : chk26 w m = 0
  case neg =>
    rw [if_neg hchk]
    (repeat (first | refine c_seq ?_ | refine c_reg ?_ | refine c_rnil ?_ | refine c_true ?_ | refine c_op (by first | exact t_call (h := check_f) | exact t_move | exact t_assign | exact t_neqT | fail) ?_ | fail))
    refine c_ret2 Tryd.func36 rfl ?_
    exact fun h1 h2 => ⟨_, _, rfl, by rw [show _ = _ from h1]; exact SlOf.nil _ _ _, h2⟩
  rw [if_pos hchk, hchk]
  obtain ⟨hn, hm1, hm2, hw⟩ := chk26_ok hchk
  (repeat (first | refine c_seq ?_ | refine c_reg ?_ | refine c_rnil ?_ | refine c_skip ?_ | refine c_false ?_ | refine c_op (by first | exact t_call (h := check_f) | exact t_move | exact t_assign | exact t_neqF | exact t_len | fail) ?_ | fail))
  refine c_draw0 mixed (by kernel_rfl) ?_
  (repeat (first | refine d_op (by first | exact t_move | exact t_add | fail) ?_ | fail))
  refine d_op (t_mk 1) ?_
  (repeat (first | refine d_op (by first | exact t_move | exact t_add | fail) ?_ | fail))
  refine d_op (t_mk 2) ?_
  (repeat (first | refine d_op (by first | exact t_assignO | fail) ?_ | fail))
  refine d_nil (q_nil ?_ (by kernel_rfl))
  refine c_row 8 100001 fun b1 => c_row 9 100002 fun b2 => ?_
  (repeat (first | refine c_seq ?_ | refine c_reg ?_ | refine c_rnil ?_ | refine c_block ?_ | refine c_op (by first | exact t_move | exact t_assign | exact t_sub | fail) ?_ | fail))
  refine c_loop (fun k : Nat => [(0, .pu (pSl eI w)), (1, .pu (pI m)), (7, .pu (pI w.length)), (8, .pu (pSr b1 (w.length + 1))), (9, .pu (pSr b2 (w.length + 1))), (10, .pu (pI ((k : Int) - 1))), (100001, .rw b1 1 eI (rowC m w k) 3), (100002, .rw b2 2 eI (rowE m w k) 3)])
    (fun k => k ≤ w.length) (fun k => k) w.length (Nat.le_refl _) ?_ fun k hk ih => ?_
  · (repeat' (first | exact trivial | refine ⟨?_, ?_⟩ | fail)) <;> (try first | exact has_rfl rfl | exact has_nil rfl | exact has_nilS rfl | exact has_gr rfl | exact has_nilGo rfl | exact has_int rfl (by first | omega | fail) | fail)
    · exact has_pu rfl (by simp [pSr])
    · exact has_pu rfl (by simp [pSr])
    · exact has_rwE rfl (by rw [rowC_end]; congr 1)
    · exact has_rwE rfl (by rw [rowE_end]; congr 1)
  (repeat (first | refine c_seq ?_ | refine c_reg ?_ | refine c_rnil ?_ | refine c_op (by first | exact t_move | exact t_geq | fail) ?_ | fail))
  refine c_if (fun hlt => ?_) fun hge => ?_
  · obtain ⟨i, rfl⟩ : ∃ i, k = i + 1 := ⟨k - 1, by omega⟩
    have hi : i < w.length := by omega
    have hCl := rowC_len (m := m) (w := w) (k := i + 1) hk
    have hEl := rowE_len (m := m) (w := w) (k := i + 1) hk
    refine c_to 10 (.pu (pI i)) (has_int rfl (by omega)) ?_
    (repeat (first | refine c_seq ?_ | refine c_reg ?_ | refine c_rnil ?_ | refine c_block ?_ | refine c_skip ?_ | refine c_label ?_ | refine c_scope ?_ | refine c_op (by first | exact t_move | exact t_assign | exact t_add | fail) ?_ | fail))
    refine c_loop (fun x : Nat × Int × Int × Int => [(0, .pu (pSl eI w)), (1, .pu (pI m)), (7, .pu (pI w.length)), (8, .pu (pSr b1 (w.length + 1))), (9, .pu (pSr b2 (w.length + 1))), (10, .pu (pI i)), (11, .pu (pI x.2.1)), (12, .pu (pI (i + 1 + x.1 : Nat))),
        (100001, .rw b1 1 eI ((rowC m w (i + 1)).set i x.2.2.1) 3), (100002, .rw b2 2 eI ((rowE m w (i + 1)).set i x.2.2.2) 3)])
      (fun x => i + x.1 < w.length ∧ x.2.1 ≤ m + 6 ∧ 0 ≤ x.2.1 ∧ (x.1 = 0 → x.2.1 = m + 6) ∧ (x.1 ≠ 0 → 0 ≤ x.2.2.1) ∧ inn m ((w.drop i).drop x.1) ((dpl m (w.drop (i + 1)) (i + 1 : Nat)).drop x.1) (i + 1 + x.1 : Nat) x.2.1 (if x.1 = 0 then -1 else x.2.2.1) x.2.2.2 = at26 (dpl m w 0) i)
      (fun x => w.length - x.1) (0, m + 6, 0, 0) ⟨hi, Int.le_refl _, by dsimp only; omega, fun _ => rfl, fun h => absurd rfl h, (at_inn hi).symm⟩ ?_ ?_
    · (repeat' (first | exact trivial | refine ⟨?_, ?_⟩ | fail)) <;> (try first | exact has_rfl rfl | exact has_nil rfl | exact has_nilS rfl | exact has_gr rfl | exact has_nilGo rfl | exact has_int rfl (by first | omega | fail) | fail)
      · exact has_rwE rfl (set_same (rowC_zero hi)).symm
      · exact has_rwE rfl (set_same (rowE_zero hi)).symm
    rintro ⟨kk, s, c, e⟩ ⟨hkk, hs1, hs2, hs3, hc0, hinn⟩ ihi
    dsimp only at hkk hs1 hs2 hs3 hc0 hinn ihi ⊢
    have hx := hw _ (List.getElem_mem hkk)
    rw [inn_step hkk] at hinn
    have hv1 : ((rowC m w (i + 1)).set i c)[i + 1 + kk]? = some (at26 (dpl m w 0) (i + 1 + kk)).1 := by
      rw [List.getElem?_set_ne (by omega)]
      exact rowC_get (by omega) (by omega)
    have hv2 : ((rowC m w (i + 1)).set i c)[i]? = some c := List.getElem?_set_self (by omega)
    have hbd := at_bd ⟨hm1, hm2⟩ hw 500 (i + 1 + kk) (by omega) (by omega)
    by_cases hneg : s - (w[i + kk] + 6) < 0
    · rw [if_pos hneg] at hinn
      have hk0 : kk ≠ 0 := fun h => by have := hs3 h; omega
      rw [if_neg hk0] at hinn
      (repeat (first | refine c_seq ?_ | refine c_reg ?_ | refine c_rnil ?_ | refine c_block ?_ | refine c_inBlock ?_ | refine c_exit ?_ | refine c_true ?_ | refine c_inScope ?_ | refine c_op (by first | exact (t_idxE (n := i + kk) (hm := by omega)) | exact t_move | exact t_assign | exact t_add | exact t_sub | exact t_lssT | exact t_load | fail) ?_ | fail))
      refine (ih i (by omega) (by omega)).sub ?_
      (repeat' (first | exact trivial | refine ⟨?_, ?_⟩ | fail)) <;> (try first | exact has_rfl rfl | exact has_nil rfl | exact has_nilS rfl | exact has_gr rfl | exact has_nilGo rfl | exact has_int rfl (by first | omega | fail) | fail)
      · exact has_rwE rfl (by rw [← rowC_set hi, ← hinn])
      · exact has_rwE rfl (by rw [← rowE_set hi, ← hinn])
    rw [if_neg hneg] at hinn
    by_cases hend : i + kk + 1 = w.length
    · rw [if_pos hend] at hinn
      (repeat (first | refine c_seq ?_ | refine c_reg ?_ | refine c_rnil ?_ | refine c_block ?_ | refine c_inBlock ?_ | refine c_exit ?_ | refine c_true ?_ | refine c_false ?_ | refine c_inScope ?_ | refine (c_st 100001 (t_st 100001)) ?_ | refine (c_st 100002 (t_st 100002)) ?_ | refine c_op (by first | exact (t_idxE (n := i + kk) (hm := by omega)) | exact (t_idxRN 100001) | exact (t_idxRN 100002) | exact t_move | exact t_assign | exact t_add | exact t_sub | exact t_lssF | exact t_eqlT | exact t_load | fail) ?_ | fail))
      refine (ih i (by omega) (by omega)).sub ?_
      (repeat' (first | exact trivial | refine ⟨?_, ?_⟩ | fail)) <;> (try first | exact has_rfl rfl | exact has_nil rfl | exact has_nilS rfl | exact has_gr rfl | exact has_nilGo rfl | exact has_int rfl (by first | omega | fail) | fail)
      · exact has_rwE rfl (by rw [← rowC_set hi, ← hinn, List.set_set])
      · exact has_rwE rfl (by rw [← rowE_set hi, ← hinn, List.set_set]; congr 1; omega)
    rw [if_neg hend] at hinn
    have hsq0 := sq_nonneg (s - (w[i + kk] + 6))
    have hsq1 : (s - (w[i + kk] + 6)) * (s - (w[i + kk] + 6)) ≤ 4024036 := Int.le_trans (Int.mul_le_mul (show _ ≤ (2006 : Int) by omega) (show _ ≤ (2006 : Int) by omega) (by omega) (by omega)) (by decide)
    have e1 : ((i + 1 + kk : Nat) : Int) + 1 = ((i + 1 + (kk + 1) : Nat) : Int) := by omega
    by_cases hup : kk = 0 ∨ (s - (w[i + kk] + 6)) * (s - (w[i + kk] + 6)) + (at26 (dpl m w 0) (i + 1 + kk)).1 ≤ c
    · rw [if_pos (by
        rcases hup with h | h
        · exact .inl (by rw [if_pos h]; omega)
        · by_cases h0 : kk = 0
          · exact .inl (by rw [if_pos h0]; omega)
          · exact .inr (by rw [if_neg h0]; exact h)), e1] at hinn
      by_cases h0 : kk = 0
      · (repeat (first | refine c_seq ?_ | refine c_reg ?_ | refine c_rnil ?_ | refine c_block ?_ | refine c_false ?_ | refine c_op (by first | exact (t_idxE (n := i + kk) (hm := by omega)) | exact t_move | exact t_assign | exact t_add | exact t_sub | exact t_lssF | exact t_eqlF | exact t_load | fail) ?_ | fail))
        refine c_draw0 mixed (by kernel_rfl) ?_
        (repeat (first | refine d_op (by first | exact t_move | exact t_assign | exact t_pickT | exact t_add | exact t_eqlT | fail) ?_ | refine d_no ?_ | fail))
        refine d_nil (q_nil ?_ (by kernel_rfl))
        (repeat (first | refine c_reg ?_ | refine c_rnil ?_ | refine c_inBlock ?_ | refine c_true ?_ | refine (c_st 100001 (t_st 100001)) ?_ | refine (c_st 100002 (t_st 100002)) ?_ | refine c_op (by first | exact (t_mul) | exact (t_idxRN 100001) | exact (t_idxRN 100002) | exact (t_loadRE 100001 (hv := hv1)) | exact t_move | exact t_assign | exact t_add | fail) ?_ | fail))
        refine (ihi (kk + 1, s - (w[i + kk] + 6), (s - (w[i + kk] + 6)) * (s - (w[i + kk] + 6)) + (at26 (dpl m w 0) (i + 1 + kk)).1, ((i + 1 + kk : Nat) : Int)) ⟨by dsimp only; omega, by dsimp only; omega, by dsimp only; omega, fun h => absurd h (Nat.succ_ne_zero kk), fun _ => by dsimp only; omega, by rw [← hinn, if_neg (Nat.succ_ne_zero kk)]⟩ (by dsimp only; omega)).sub ?_
        (repeat' (first | exact trivial | refine ⟨?_, ?_⟩ | fail)) <;> (try first | exact has_rfl rfl | exact has_nil rfl | exact has_nilS rfl | exact has_gr rfl | exact has_nilGo rfl | exact has_int rfl (by first | omega | fail) | fail)
        · exact has_rwE rfl (by rw [List.set_set])
        · exact has_rwE rfl (by rw [List.set_set])
      · have hle := hup.resolve_left h0
        (repeat (first | refine c_seq ?_ | refine c_reg ?_ | refine c_rnil ?_ | refine c_block ?_ | refine c_false ?_ | refine c_op (by first | exact (t_idxE (n := i + kk) (hm := by omega)) | exact t_move | exact t_assign | exact t_add | exact t_sub | exact t_lssF | exact t_eqlF | exact t_load | fail) ?_ | fail))
        refine c_draw0 mixed (by kernel_rfl) ?_
        (repeat (first | refine d_op (by first | exact t_move | exact t_assign | exact t_pickF | exact t_add | exact t_eqlF | fail) ?_ | refine d_yes (by first | exact (t_mul) | exact (t_idxRN 100001) | exact (t_loadRE 100001 (hv := hv1)) | exact (t_loadRE 100001 (hv := hv2)) | exact t_move | exact t_add | exact t_leqT | fail) ?_ | fail))
        refine d_nil (q_nil ?_ (by kernel_rfl))
        (repeat (first | refine c_reg ?_ | refine c_rnil ?_ | refine c_inBlock ?_ | refine c_true ?_ | refine (c_st 100001 (t_st 100001)) ?_ | refine (c_st 100002 (t_st 100002)) ?_ | refine c_op (by first | exact (t_mul) | exact (t_idxRN 100001) | exact (t_idxRN 100002) | exact (t_loadRE 100001 (hv := hv1)) | exact t_move | exact t_assign | exact t_add | fail) ?_ | fail))
        refine (ihi (kk + 1, s - (w[i + kk] + 6), (s - (w[i + kk] + 6)) * (s - (w[i + kk] + 6)) + (at26 (dpl m w 0) (i + 1 + kk)).1, ((i + 1 + kk : Nat) : Int)) ⟨by dsimp only; omega, by dsimp only; omega, by dsimp only; omega, fun h => absurd h (Nat.succ_ne_zero kk), fun _ => by dsimp only; omega, by rw [← hinn, if_neg (Nat.succ_ne_zero kk)]⟩ (by dsimp only; omega)).sub ?_
        (repeat' (first | exact trivial | refine ⟨?_, ?_⟩ | fail)) <;> (try first | exact has_rfl rfl | exact has_nil rfl | exact has_nilS rfl | exact has_gr rfl | exact has_nilGo rfl | exact has_int rfl (by first | omega | fail) | fail)
        · exact has_rwE rfl (by rw [List.set_set])
        · exact has_rwE rfl (by rw [List.set_set])
    · have h0 : kk ≠ 0 := fun h => hup (.inl h)
      have hgt : c < (s - (w[i + kk] + 6)) * (s - (w[i + kk] + 6)) + (at26 (dpl m w 0) (i + 1 + kk)).1 := by
        have : ¬ _ := fun h => hup (.inr h)
        omega
      have hc0 := hc0 h0
      rw [if_neg (by rw [if_neg h0]; omega), if_neg h0, e1] at hinn
      (repeat (first | refine c_seq ?_ | refine c_reg ?_ | refine c_rnil ?_ | refine c_block ?_ | refine c_false ?_ | refine c_op (by first | exact (t_idxE (n := i + kk) (hm := by omega)) | exact t_move | exact t_assign | exact t_add | exact t_sub | exact t_lssF | exact t_eqlF | exact t_load | fail) ?_ | fail))
      refine c_draw0 mixed (by kernel_rfl) ?_
      (repeat (first | refine d_op (by first | exact t_move | exact t_assign | exact t_pickF | exact t_add | exact t_eqlF | fail) ?_ | refine d_yes (by first | exact (t_mul) | exact (t_idxRN 100001) | exact (t_loadRE 100001 (hv := hv1)) | exact (t_loadRE 100001 (hv := hv2)) | exact t_move | exact t_add | exact t_leqF | fail) ?_ | fail))
      refine d_nil (q_nil ?_ (by kernel_rfl))
      (repeat (first | refine c_reg ?_ | refine c_rnil ?_ | refine c_inBlock ?_ | refine c_skip ?_ | refine c_false ?_ | refine c_op (by first | exact t_move | exact t_assign | exact t_add | fail) ?_ | fail))
      exact (ihi (kk + 1, s - (w[i + kk] + 6), c, e) ⟨by dsimp only; omega, by dsimp only; omega, by dsimp only; omega, fun h => absurd h (Nat.succ_ne_zero kk), fun _ => hc0, by rw [← hinn, if_neg (Nat.succ_ne_zero kk)]⟩ (by dsimp only; omega)).sub (by repeat (first | exact trivial | refine ⟨has_rfl rfl, ?_⟩ | fail))
  have hk0 : k = 0 := by omega
  subst hk0
  (repeat (first | refine c_seq ?_ | refine c_reg ?_ | refine c_rnil ?_ | refine c_block ?_ | refine c_exit ?_ | refine c_op (by first | exact t_assign | fail) ?_ | fail))
  refine c_loop (fun x : Nat × List Int × Nat => [(7, .pu (pI w.length)), (9, .pu (pSr b2 (w.length + 1))), (13, .gr eI x.2.1 3 3), (14, .pu (pI x.1)), (100002, .rw b2 2 eI (rowE m w 0) 3)])
    (fun x => x.1 ≤ w.length ∧ w.length < x.1 + x.2.2 ∧ x.2.1.length ≤ x.1 ∧ endsM w m = x.2.1 ++ walkE (dpl m w 0) w.length x.2.2 x.1) (fun x => x.2.2) (0, [], w.length + 1) ⟨Nat.zero_le _, by dsimp only; omega, by simp, rfl⟩ (by repeat (first | exact trivial | refine ⟨has_rfl rfl, ?_⟩ | refine ⟨has_nil rfl, ?_⟩ | fail)) ?_
  rintro ⟨a, out, f⟩ ⟨ha, hf, ho, hends⟩ ih
  dsimp only at ha hf ho hends ih ⊢
  (repeat (first | refine c_seq ?_ | refine c_reg ?_ | refine c_rnil ?_ | refine c_op (by first | exact t_move | exact t_lss | fail) ?_ | fail))
  refine c_if (fun hlt => ?_) fun hge2 => ?_
  · have ha2 : a < w.length := by omega
    obtain ⟨f, rfl⟩ : ∃ g, f = g + 1 := ⟨f - 1, by omega⟩
    have hB := at_best m hm1 hw a ha2
    have hul : (w.drop a).length = w.length - a := List.length_drop
    have h1 := hB.lo
    have h2 := hB.hi
    rw [walkE_cons (by omega)] at hends
    obtain ⟨a', ha'⟩ : ∃ a' : Nat, (at26 (dpl m w 0) a).2 = (a' : Int) := ⟨(at26 (dpl m w 0) a).2.toNat, by omega⟩
    have hv := rowE_get (m := m) (w := w) (k := 0) (j := a) (by omega) (by omega)
    rw [ha'] at hends hv h1 h2
    (repeat (first | refine c_seq ?_ | refine c_reg ?_ | refine c_rnil ?_ | refine c_block ?_ | refine c_inBlock ?_ | refine c_skip ?_ | refine c_op (by first | exact (t_idxRN 100002) | exact (t_loadRE 100002 (hv := hv)) | exact t_moveG | exact t_move | exact t_assignG | exact t_assign | exact t_bs | fail) ?_ | refine c_opW t_app ?_ | fail))
    exact (ih (a', out ++ [(a' : Int)], f) ⟨by dsimp only; omega, by dsimp only; omega, by rw [List.length_append, List.length_singleton]; dsimp only; omega, by rw [hends, List.append_assoc]; rfl⟩ (by dsimp only; omega)).sub (by repeat (first | exact trivial | refine ⟨has_rfl rfl, ?_⟩ | fail))
  · have hae : a = w.length := by omega
    obtain ⟨f, rfl⟩ : ∃ g, f = g + 1 := ⟨f - 1, by omega⟩
    rw [walkE, if_neg (by omega), List.append_nil] at hends
    rw [hends]
    (repeat (first | refine c_seq ?_ | refine c_reg ?_ | refine c_rnil ?_ | refine c_exit ?_ | refine c_op (by first | exact t_moveG | exact t_assignG | exact t_assign | fail) ?_ | fail))
    refine c_ret2 Tryd.func36 rfl ?_
    exact fun h1 h2 => ⟨_, _, rfl, h1, h2⟩
end Go.Proofs.YtedlipgopicijaaDoor
end

section
namespace Go.Proofs.YtedlipgopicijaaDoor
open Go Go.RowKit
end Go.Proofs.YtedlipgopicijaaDoor
end

section
namespace Go.Proofs.YtedlipgopicijaaDoor
open Go Go.RowKit
class ICc (P : Program) (t : TypeId) (k : outParam IntKind) : Prop where
  out : P.underlying t = some (.int k)
instance : ICc Tryd.prog 3 .i64 := ⟨Tryd.underlying3⟩
instance : ICc Tryd.prog 86 .u64 := ⟨Tryd.underlying86⟩
instance : ICc Tryd.prog 123 .u64 := ⟨Tryd.underlying123⟩
theorem wrap_u64 {n : Int} (h : 0 ≤ n ∧ n ≤ 18446744073709551615) : IntKind.wrap .u64 n = n := by
  have e : n % 18446744073709551616 = n := Int.emod_eq_of_lt h.1 (by omega)
  simp [IntKind.wrap, IntKind.bits, IntKind.signed, e]
theorem wrap_i64 {n : Int} (h : 0 ≤ n ∧ n ≤ 9223372036854775807) : IntKind.wrap .i64 n = n := by
  have e : n % 18446744073709551616 = n := Int.emod_eq_of_lt h.1 (by omega)
  simp [IntKind.wrap, IntKind.bits, IntKind.signed, e]
  omega
theorem rngU {n : Int} : Rng .u64 n := ⟨(fun h => by cases h), (fun h => by cases h)⟩
section
variable {P : Program} {N : Nat} {G : TF} {d : Option Tmp} {ty : TypeId} {pos : String} {aft : Array Edge} {g : Option (Nat × Bool)} {x y : Operand} {m n : Int} {t u : TypeId}
theorem t_cvU {k : IntKind} (hx : topP G x = some (pK k n) := by rfl) (ht : ICc P u .u64 := by infer_instance) (hs : ICc P t k := by infer_instance) (h : 0 ≤ n ∧ n ≤ 9223372036854775807 := by omega) : TOp P N ⟨d, .convert t u x, ty, pos, aft, g⟩ G [] (.pu (pK .u64 n)) := .pure [x] (by simp [Op.operands]) fun {B M w fr} hf => by
  obtain ⟨_, h0, rfl, _⟩ := hf.op hx (by simp)
  have hk : P.intKind u = .u64 := by simp [Program.intKind, ht.out]
  have hrun := run_convert_int (P := P) w t u k n (by rw [hs.out]; rfl) (by rw [hk]; exact ht.out)
  rw [hk, wrap_u64 (by omega)] at hrun
  exact OP.val (fun a ha => by simp only [execOp, ha.eval h0, Sem.run_bind, hrun]; rfl) ⟨rfl, rfl, rngU⟩
theorem t_cvI {k : IntKind} (hx : topP G x = some (pK k n) := by rfl) (ht : ICc P u .i64 := by infer_instance) (hs : ICc P t k := by infer_instance) (h : 0 ≤ n ∧ n ≤ 9223372036854775807 := by omega) : TOp P N ⟨d, .convert t u x, ty, pos, aft, g⟩ G [] (.pu (pK .i64 n)) := .pure [x] (by simp [Op.operands]) fun {B M w fr} hf => by
  obtain ⟨_, h0, rfl, _⟩ := hf.op hx (by simp)
  have hk : P.intKind u = .i64 := by simp [Program.intKind, ht.out]
  have hrun := run_convert_int (P := P) w t u k n (by rw [hs.out]; rfl) (by rw [hk]; exact ht.out)
  rw [hk, wrap_i64 h] at hrun
  exact OP.val (fun a ha => by simp only [execOp, ha.eval h0, Sem.run_bind, hrun]; rfl) ⟨rfl, rfl, rng64 (by omega)⟩
theorem t_mulU (hx : topP G x = some (pK .u64 m) := by rfl) (hy : topP G y = some (pK .u64 n) := by rfl) (r : Int) (he : m * n = r) (hr : 0 ≤ r ∧ r ≤ 18446744073709551615) : TOp P N ⟨d, .binOp .mul t x y u, ty, pos, aft, g⟩ G [] (.pu (pK .u64 r)) := .pure [x, y] (by simp [Op.operands]) fun hf => by
  obtain ⟨_, h0, rfl, _⟩ := hf.op hx (by simp)
  obtain ⟨_, h1, rfl, _⟩ := hf.op hy (by simp)
  exact OP.val (v := .int .u64 r) (fun a ha => by simp [execOp, ha.eval h0, ha.eval h1, eqGuard_at_int, binOp_mul, Op.intArith, he, wrap_u64 hr]) ⟨rfl, rfl, rngU⟩
theorem t_addU (hx : topP G x = some (pK .u64 m) := by rfl) (hy : topP G y = some (pK .u64 n) := by rfl) (hr : 0 ≤ m + n ∧ m + n ≤ 18446744073709551615 := by omega) : TOp P N ⟨d, .binOp .add t x y u, ty, pos, aft, g⟩ G [] (.pu (pK .u64 (m + n))) := .pure [x, y] (by simp [Op.operands]) fun hf => by
  obtain ⟨_, h0, rfl, _⟩ := hf.op hx (by simp)
  obtain ⟨_, h1, rfl, _⟩ := hf.op hy (by simp)
  exact OP.val (v := .int .u64 (m + n)) (fun a ha => by simp [execOp, ha.eval h0, ha.eval h1, eqGuard_at_int, binOp_add, Op.intArith, wrap_u64 hr]) ⟨rfl, rfl, rngU⟩
theorem and_mask {n : Int} (h : 0 ≤ n ∧ n ≤ 4294967295) : (((BitVec.ofInt 64 n) &&& (BitVec.ofInt 64 4294967295)).toNat : Int) = n := by
  obtain ⟨k, rfl⟩ : ∃ k : Nat, n = k := ⟨n.toNat, by omega⟩
  have e1 : (BitVec.ofInt 64 (k : Int)).toNat = k := by
    rw [BitVec.toNat_ofInt]
    have : ((k : Int) % ((2 ^ 64 : Nat) : Int)) = k := Int.emod_eq_of_lt (by omega) (by omega)
    rw [this, Int.toNat_natCast]
  have e2 : (BitVec.ofInt 64 4294967295).toNat = 2 ^ 32 - 1 := by rfl
  rw [BitVec.toNat_and, e1, e2, Nat.and_two_pow_sub_one_eq_mod, Nat.mod_eq_of_lt (by omega)]
theorem t_mask (hx : topP G x = some (pK .u64 n) := by rfl) (hy : topP G y = some (pK .u64 4294967295) := by rfl) (h : 0 ≤ n ∧ n ≤ 4294967295 := by omega) : TOp P N ⟨d, .binOp .and t x y u, ty, pos, aft, g⟩ G [] (.pu (pK .u64 n)) := .pure [x, y] (by simp [Op.operands]) fun hf => by
  obtain ⟨_, h0, rfl, _⟩ := hf.op hx (by simp)
  obtain ⟨_, h1, rfl, _⟩ := hf.op hy (by simp)
  have hm : (((BitVec.ofInt IntKind.u64.bits n) &&& (BitVec.ofInt IntKind.u64.bits 4294967295)).toNat : Int) = n := and_mask h
  exact OP.val (v := .int .u64 n) (fun a ha => by
    simp only [execOp, ha.eval h0, ha.eval h1, eqGuard_at_int, binOp_and, Op.intBits]
    simp only [hm, wrap_u64 (show 0 ≤ n ∧ n ≤ 18446744073709551615 by omega)]
    rfl) ⟨rfl, rfl, rngU⟩
theorem t_shr0 (hx : topP G x = some (pK .u64 n) := by rfl) (hy : topP G y = some (pK .u64 32) := by rfl) (h : 0 ≤ n ∧ n ≤ 4294967295 := by omega) : TOp P N ⟨d, .binOp .shr t x y u, ty, pos, aft, g⟩ G [] (.pu (pK .u64 0)) := .pure [x, y] (by simp [Op.operands]) fun hf => by
  obtain ⟨_, h0, rfl, _⟩ := hf.op hx (by simp)
  obtain ⟨_, h1, rfl, _⟩ := hf.op hy (by simp)
  have e : n.fdiv 4294967296 = 0 := by
    rw [Int.fdiv_eq_ediv_of_nonneg _ (by omega)]
    exact Int.ediv_eq_zero_of_lt h.1 (by omega)
  exact OP.val (v := .int .u64 0) (fun a ha => by simp [execOp, ha.eval h0, ha.eval h1, eqGuard_at_int, binOp_shr, Op.shift, IntKind.bits, e]) ⟨rfl, rfl, rngU⟩
end
theorem mul64_f {k : Int} (h : 0 ≤ k ∧ k ≤ 1000000) : Fn Tryd.prog 90 [pK .u64 1, pK .u64 k] (pT2 (pK .u64 0) (pK .u64 k)) := by
  refine fn_of ent90 Tryd.func90 rfl Tryd.ntmps90 rfl fun M0 w0 => ?_
  (repeat (first | refine c_seq ?_ | refine c_reg ?_ | refine c_rnil ?_ | refine c_op (by first | exact (t_mask) | exact (t_shr0) | exact (t_addU) | exact (t_mulU (r := k) (he := by omega) (hr := by omega)) | exact (t_mulU (r := 0) (he := by omega) (hr := by omega)) | exact t_move | exact t_assign | fail) ?_ | fail))
  refine c_ret2 Tryd.func90 rfl ?_
  exact fun h1 h2 => ⟨_, _, rfl, h1, h2⟩
theorem mul_f {k : Int} (h : 0 ≤ k ∧ k ≤ 1000000) : Fn Tryd.prog 74 [pK .u64 1, pK .u64 k] (pT2 (pK .u64 0) (pK .u64 k)) := by
  refine fn_of ent74 Tryd.func74 rfl Tryd.ntmps74 rfl fun M0 w0 => ?_
  (repeat (first | refine c_seq ?_ | refine c_reg ?_ | refine c_rnil ?_ | refine c_skip ?_ | refine c_false ?_ | refine c_op (by first | exact t_call (h := (mul64_f h)) | exact t_move | exact t_assign | exact t_ext0 | exact t_ext1 | fail) ?_ | fail))
  refine c_ret2 Tryd.func74 rfl ?_
  exact fun h1 h2 => ⟨_, _, rfl, h1, h2⟩
end Go.Proofs.YtedlipgopicijaaDoor
end

section
namespace Go.Proofs.YtedlipgopicijaaDoor
open Go Go.RowKit
theorem cssI {M : Mut} {w : World} : ∀ {l : List Int} {css : List Value}, CSS eI M w css l ↔ css = l.map (.int .i64) ∧ ∀ n ∈ l, I64 n
  | [], css => by simp [CSS]
  | n :: l, css => by
    simp only [CSS]
    constructor
    · rintro ⟨a, b, rfl, ⟨rfl, h, _⟩, h2⟩
      obtain ⟨rfl, h3⟩ := cssI.1 h2
      exact ⟨rfl, fun m hm => by
        rcases List.mem_cons.1 hm with rfl | hm
        · exact h rfl
        · exact h3 m hm⟩
    · rintro ⟨rfl, h⟩
      exact ⟨[.int .i64 n], l.map (.int .i64), rfl, ⟨rfl, fun _ => h n (by simp), fun e => by cases e⟩, cssI.2 ⟨rfl, fun m hm => h m (by simp [hm])⟩⟩
def over (l : List Int) (off : Nat) (s : List Int) : List Int := l.take off ++ s ++ l.drop (off + s.length)
theorem over_len {l s : List Int} {off : Nat} (h : off + s.length ≤ l.length) : (over l off s).length = l.length := by
  unfold over
  simp only [List.length_append, List.length_take, List.length_drop]
  omega
section
variable {P : Program} {N : Nat} {fr : Fr} {w : World} {Ψ : Value → World → Prop} {d : Option Tmp} {ty : TypeId} {pos : String} {aft : Array Edge} {g : Option (Nat × Bool)}
theorem op_copyI {M : Mut} {w0 : World} {b tag off m cap : Nat} {l s : List Int} {t e : TypeId} {x y : Operand} {a2 : Option Addr} {len cap2 k : Nat} (ht : P.underlying t = some (.slice e)) (hE : TE P e eI)
    (hx : opv fr x = some (.slice (some ⟨b, off, none⟩) m cap)) (hy : opv fr y = some (.slice a2 len cap2)) (hk : min m len = k) (hs : (Builtin.firstCells 1 k (.slice a2 len cap2)).run P w = .ok (s.map (Value.int .i64)).toArray w) (_hsk : s.length = k)
    (hI : ∀ n ∈ s, I64 n) (hB : w0.heap.size ≤ b) (hb : ∃ css, CSS eI M w css l ∧ Box M w b tag css e) (hf : off + s.length ≤ l.length)
    (h : ∀ w', (∃ css, CSS eI M w' css (over l off s) ∧ Box M w' b tag css e) → St w0.heap.size (some tag) M w M w' → Ψ (.int .i64 k) w') :
    OP P N ⟨d, .call ⟨.builtin .copy, #[x, y], #[t, t]⟩, ty, pos, aft, g⟩ fr w Ψ := by
  obtain ⟨z, hz, hT⟩ := hE
  obtain ⟨css, c1, hb⟩ := hb
  obtain ⟨rfl, hI2⟩ := cssI.1 c1
  have hst := run_storeCells_at P b off e (s.map (Value.int .i64)) 0 (l.map (Value.int .i64)).toArray w hb.heap (by simpa using hf) (fun v hv => by
    obtain ⟨n, _, rfl⟩ := List.mem_map.1 hv
    rfl)
  have hM : M = M.set b (some (0, tag)) := by
    funext k
    unfold Mut.set
    split
    · rename_i hk; subst hk; exact hb.mark
    · rfl
  have hcur : (List.take (off + 0) (l.map (Value.int .i64)).toArray.toList ++ s.map (Value.int .i64) ++ List.drop (off + 0 + (s.map (Value.int .i64)).length) (l.map (Value.int .i64)).toArray.toList) = (over l off s).map (Value.int .i64) := by
    unfold over
    simp
  rw [hcur] at hst
  have hS : St w0.heap.size (some tag) M w M (w.setRow b ((over l off s).map (Value.int .i64)).toArray) := by
    have := St.write (M := M) (w := w) (w' := w.setRow b ((over l off s).map (Value.int .i64)).toArray) (k := 0) (k' := 0) hB hb.lt hb.mark rfl (Nat.le_refl _) rfl rfl rfl (by simp [World.setRow]) (fun k hk => setRow_other w b k _ hk) (fun off ho => by omega)
    rwa [← hM] at this
  refine OP.val (v := .int .i64 k) (w' := w.setRow b ((over l off s).map (Value.int .i64)).toArray) (fun a ha => ?_) (h _ ⟨_, cssI.2 ⟨rfl, fun n hn => ?_⟩, ⟨setRow_heap w b _ _ e _ hb.heap, hb.mark⟩⟩ hS)
  · simp only [execOp, resolve, invoke, builtin, Sem.run_bind, Sem.run_pure, Result.andThen_ok, List.map_toArray, List.map_cons, List.map_nil, ha.eval hx, ha.eval hy]
    have hsz : (sizeOf e).run P w = .ok 1 w := hT.run_sizeOf (w := w)
    have hk2 : len.min m = k := by rw [show len.min m = min len m from rfl, Nat.min_comm]; exact hk
    simp [Builtin.copy_, run_underlying ht, Builtin.lenOf, hk2, hsz, hs, hst, goInt]
  · unfold over at hn
    rcases List.mem_append.1 hn with hn | hn
    · rcases List.mem_append.1 hn with hn | hn
      · exact hI2 n (List.mem_of_mem_take hn)
      · exact hI n hn
    · exact hI2 n (List.mem_of_mem_drop hn)
end
section
variable {P : Program} {N : Nat} {G : TF} {d : Option Tmp} {ty : TypeId} {pos : String} {aft : Array Edge} {g : Option (Nat × Bool)}
theorem t_sliceRL {α : Type} {E : Enc α} {x lo : Operand} {b n : Nat} {t e : TypeId} {k : IntKind} {m : Int} (hx : topP G x = some (pSr b n) := by rfl) (h1 : topP G lo = some (pK k m) := by rfl)
    (ht : USl P t e := by infer_instance) (hE : TEc P e E := by infer_instance) (hb : 0 ≤ m ∧ m < n := by omega) :
    TOp P N ⟨d, .slice t x (some lo) none none, ty, pos, aft, g⟩ G [] (.pu (pv (.slice (some ⟨b, m.toNat * E.sz, none⟩) (n - m.toNat) (n - m.toNat)))) := .pure [x, lo] (by simp [Op.operands]) fun {B M w fr} hf => by
  obtain ⟨_, k0, rfl⟩ := hf.op hx (by simp)
  obtain ⟨_, k2, rfl, _⟩ := hf.op h1 (by simp)
  obtain ⟨z, hz, hT⟩ := hE.out
  refine OP.val (w' := w) (fun a' ha => ?_) ⟨rfl, rfl⟩
  have b2 : (Instr.sliceBound (.int k m) n .sliceB).run P w = .ok m.toNat w := run_bound (by omega)
  have hne : ¬ n = m.toNat := by omega
  simp only [execOp, ha.eval k0, ha.eval k2, Option.map_some, Option.map_none]
  simp [Instr.sliceAt, Instr.slice, run_underlying ht.out, Instr.sliceBounds, b2, hT.run_sizeOf (w := w), hne, Addr.add_lit]
theorem t_sliceRH {x hi : Operand} {b n : Nat} {t e : TypeId} {k : IntKind} {m : Int} (hx : topP G x = some (pSr b n) := by rfl) (h1 : topP G hi = some (pK k m) := by rfl)
    (ht : USl P t e := by infer_instance) (hE : TEc P e eI := by infer_instance) (hb : 0 ≤ m ∧ m ≤ n := by omega) :
    TOp P N ⟨d, .slice t x none (some hi) none, ty, pos, aft, g⟩ G [] (.pu (pv (.slice (some ⟨b, 0, none⟩) m.toNat n))) := .pure [x, hi] (by simp [Op.operands]) fun {B M w fr} hf => by
  obtain ⟨_, k0, rfl⟩ := hf.op hx (by simp)
  obtain ⟨_, k2, rfl, _⟩ := hf.op h1 (by simp)
  obtain ⟨z, hz, hT⟩ := hE.out
  refine OP.val (w' := w) (fun a' ha => ?_) ⟨rfl, rfl⟩
  have b2 : (Instr.sliceBound (.int k m) n .sliceAcap).run P w = .ok m.toNat w := run_bound (by omega)
  simp only [execOp, ha.eval k0, ha.eval k2, Option.map_some, Option.map_none]
  simp [Instr.sliceAt, Instr.slice, run_underlying ht.out, Instr.sliceBounds, b2, hT.run_sizeOf (w := w), Addr.add_lit]
end
section
variable {P : Program} {f : FuncId} {N : Nat} {M0 : Mut} {w0 : World} {R : Value → World → Prop} {G : TF} {k : List Item}
variable {ops : Array Oper} {d : Nat} {ty : TypeId} {pos : String} {aft : Array Edge} {rest : List Oper}
theorem c_copy {x y : Operand} {b n tag : Nat} {l s : List Int} {t e : TypeId} (key : Nat) (hk : RLt P f N M0 w0 ops k R rest ((d, .pu (pI s.length)) :: (key, .rw b tag eI (over l 0 s) e) :: dropW [tag] G))
    (hx : topP G x = some (pSr b n) := by rfl) (hy : topP G y = some (pSl eI s) := by rfl) (hg : tlook G key = some (.rw b tag eI l e) := by rfl) (ht : USl P t e := by infer_instance) (hE : TEc P e eI := by infer_instance)
    (hn : s.length ≤ n := by omega) (hl : s.length ≤ l.length := by omega) (hd : d < N := by decide) : RLt P f N M0 w0 ops k R (⟨some d, .call ⟨.builtin .copy, #[x, y], #[t, t]⟩, ty, pos, aft, none⟩ :: rest) G := ⟨fun {M w fr} hr hf => by
  obtain ⟨_, k0, rfl⟩ := hf.op0 hx (fun _ _ => trivial)
  obtain ⟨v, k1, k2⟩ := hf.op0 hy (fun _ _ => trivial)
  obtain ⟨hB, hbx⟩ := hf.out key _ hg (.inr trivial)
  have hsl := k2.le
  obtain ⟨a, cap, f1, f2, f3, f4, f5, f6⟩ := k2.ex
  subst f1
  have hcss : (∀ n ∈ s, I64 n) ∧ (Builtin.firstCells 1 s.length (.slice a s.length cap)).run P w = .ok (s.map (Value.int .i64)).toArray w := by
    cases a with
    | none =>
      have := f4 rfl
      have : s = [] := List.eq_nil_of_length_eq_zero (by omega)
      subst this
      exact ⟨(fun n hn => by cases hn), rfl⟩
    | some ad =>
      obtain ⟨css, c1, c2⟩ := CSS.of_elems (f6 ad rfl)
      obtain ⟨rfl, hI⟩ := cssI.1 c1
      exact ⟨hI, run_firstCells_some (P := P) w 1 s.length ad s.length cap _ c1.len (fun j v h => (c2 j v h).1)⟩
  refine rl_step hd (op_copyI (M := M) (w0 := w0) (b := b) (tag := tag) (off := 0) (l := l) (s := s) (len := s.length) (k := s.length) ht.out hE.out k0 k1 (Nat.min_eq_right hn) hcss.2 rfl hcss.1 hB hbx (by omega) fun w' h1 h2 => ?_)
  have hs := StW.st h2
  exact hk.out (hr.stw hs) (Fit.cons (T := .pu (pI s.length)) (Fit.hide (T := .rw b tag eI (over l 0 s) e) (hf.after hs) ⟨hB, h1⟩) ⟨rfl, rng64 (by omega)⟩)⟩
theorem q_copy {i n' : Nat} {listed : Array Bool} {x y : Operand} {b n tag off : Nat} {l : List Int} {t e : TypeId} (key : Nat) (hr : Region.ready .any ops listed = [i]) (ho : ops[i]? = some ⟨some d, .call ⟨.builtin .copy, #[x, y], #[t, t]⟩, ty, pos, aft, none⟩)
    (hk : RTt P f N M0 w0 ops k R n' (listed.setIfInBounds i true) ((d, .pu (pI (min (n - off) off : Nat))) :: (key, .rw b tag eI (over l off (l.take (min (n - off) off))) e) :: dropW [tag] G))
    (hx : topP G x = some (pv (.slice (some ⟨b, off * eI.sz, none⟩) (n - off) (n - off))) := by rfl) (hy : topP G y = some (pv (.slice (some ⟨b, 0, none⟩) off n)) := by rfl) (hg : tlook G key = some (.rw b tag eI l e) := by rfl) (ht : USl P t e := by infer_instance)
    (hE : TEc P e eI := by infer_instance) (hn : l.length = n) (hof : off ≤ n) (hnn : n ≤ 9223372036854775807) (hd : d < N := by decide) : RTt P f N M0 w0 ops k R (n' + 1) listed G := ⟨fun {M w fr} hrn hf => by
  obtain ⟨_, k0, rfl⟩ := hf.op0 hx (fun _ _ => trivial)
  obtain ⟨_, k1, rfl⟩ := hf.op0 hy (fun _ _ => trivial)
  obtain ⟨hB, hbx⟩ := hf.out key _ hg (.inr trivial)
  have hbx' := hbx
  obtain ⟨css, c1, hb⟩ := hbx'
  obtain ⟨rfl, hI⟩ := cssI.1 c1
  have hlt : (l.take (min (n - off) off)).length = min (n - off) off := by rw [List.length_take]; omega
  have hcs : (Builtin.firstCells 1 (min (n - off) off) (.slice (some ⟨b, 0, none⟩) off n)).run P w = .ok ((l.take (min (n - off) off)).map (Value.int .i64)).toArray w := by
    refine run_firstCells_some (P := P) w 1 _ ⟨b, 0, none⟩ off n _ (by rw [List.length_map, hlt, Nat.mul_one]) (fun j v h => ?_)
    rw [Addr.add_lit, Nat.zero_add, hb.cell, ← h, List.map_take, List.getElem?_take]
    rw [List.map_take, List.getElem?_take] at h
    split at h
    · rename_i hj
      rw [if_pos hj]
    · cases h
  refine rt_one hr ho hd (op_copyI (M := M) (w0 := w0) (b := b) (tag := tag) (off := off) (l := l) (s := l.take (min (n - off) off)) (len := off) (k := min (n - off) off) ht.out hE.out (by rw [show off * eI.sz = off from Nat.mul_one _] at k0; exact k0) k1 rfl hcs hlt
    (fun n hn => hI n (List.mem_of_mem_take hn)) hB hbx (by rw [hlt]; omega) fun w' h1 h2 => ?_)
  have hs := StW.st h2
  exact hk.out (hrn.stw hs) (Fit.cons (T := .pu (pI (min (n - off) off : Nat))) (Fit.hide (T := .rw b tag eI (over l off (l.take (min (n - off) off))) e) (hf.after hs) ⟨hB, h1⟩) ⟨rfl, rng64 (by omega)⟩)⟩
end
def RetI (B : Nat) (w0 : World) (e : TypeId) (l : List Int) : Value → World → Prop := fun v w => (∃ b, v = .slice (some ⟨b, 0, none⟩) l.length l.length ∧ B ≤ b ∧ w.heap[b]? = some (.cells (l.map (Value.int .i64)).toArray e (0, 0)) ∧ ∀ n ∈ l, I64 n) ∧ Below w0.heap.size w0 w
structure FnI (P : Program) (g : FuncId) (Ps : List Pub) (e : TypeId) (l : List Int) : Prop where
  ent : Ent P g
  run : ∀ M w vs, MB M w → Lays M w → FitL M w Ps vs → CallsV P g vs w (RetI w.heap.size w e l)
theorem fnI_of {P : Program} {f : FuncId} {N : Nat} {fn : Func} {c : Code} {Ps : List Pub} {e : TypeId} {l : List Int} (he : Ent P f) (hf : P.funcs[f]? = some fn) (hb : fn.body = some c) (hN : fn.ntmps = N) (hn : Nat.ble Ps.length N = true)
    (h : ∀ M0 w0, Rt P f N M0 w0 [.code c] (argTF 0 Ps) (RetI w0.heap.size w0 e l)) : FnI P f Ps e l := ⟨he, fun M w vs hm hl0 hv => by
  have hlen := hv.len
  exact callsV_of_run hf hb hN (by rw [hlen]; exact Nat.le_of_ble_eq_true hn) ((h M w).out (Rn.refl hm) (fit_args hl0 0 hv))⟩
theorem c_retI {P : Program} {k : List Item} {f : FuncId} {N : Nat} {M0 : Mut} {w0 : World} {G : TF} {fn : Func} {t : Nat} {b tag n : Nat} {l l' : List Int} {e : TypeId} (key : Nat) (hf : P.funcs[f]? = some fn) (hr : fn.results = #[.tmp t]) (hl : l' = l) (hn : n = l.length)
    (hp : topP G (.tmp t) = some (pSr b n) := by rfl) (hg : tlook G key = some (.rw b tag eI l' e) := by rfl) : Rt P f N M0 w0 (.code .ret :: k) G (RetI w0.heap.size w0 e l) := ⟨fun {M w fr} hrn hfit => by
  subst hl hn
  obtain ⟨v, h1, rfl⟩ := hfit.op0 hp (fun _ _ => trivial)
  obtain ⟨hB, css, h2, h3⟩ := hfit.out key _ hg (.inr trivial)
  obtain ⟨rfl, hI⟩ := cssI.1 h2
  exact run_ret1 hf hr h1 ⟨⟨b, rfl, hB, h3.heap, hI⟩, hrn.bel⟩⟩
theorem t_callI {P : Program} {N : Nat} {G : TF} {d : Option Tmp} {ty : TypeId} {pos : String} {aft : Array Edge} {g : Option (Nat × Bool)} {f : FuncId} {args : List Operand} {argT : Array TypeId} {Ps : List Pub} {e : TypeId} {l : List Int} (tag : Nat) (h : FnI P f Ps e l) (ha : topPs G args = some Ps := by rfl) :
    TOp P N ⟨d, .call ⟨.value (.func f), args.toArray, argT⟩, ty, pos, aft, g⟩ G [] (.ow eI l tag e) := ⟨args, (by simp [Op.operands, Call.operands]; intro x hx; exact .inr hx), fun {M0 w0 M w fr} hr hf => by
  obtain ⟨vs, h1, h2⟩ := hf.ops ha (fun _ h => h)
  refine op_call h.ent h1 (h.run M w vs hr.mb hf.lay h2) fun v w' ⟨⟨b, e1, e2, e3, e4⟩, hb⟩ => ?_
  have hup : UpM M w (M.set b (some (0, tag))) w' := ⟨hb, fun c hc => by unfold Mut.set; rw [if_neg (by omega)], fun hm c hc => by
    have := (Array.getElem?_eq_some_iff.1 e3).1
    unfold Mut.set
    rw [if_neg (by omega)]
    exact hm c (Nat.le_trans hb.size hc)⟩
  exact ⟨_, StW.up hr.size hup, b, e1, Nat.le_trans hr.size e2, _, cssI.2 ⟨rfl, e4⟩, e3, by simp [Mut.set]⟩⟩
theorem take_rep {x : Int} {l : List Int} {off n : Nat} (hl : l.length = n) (_ho : 1 ≤ off) (hof : off < n) (h : l.take off = List.replicate off x) :
    (over l off (l.take (min (n - off) off))).take (off + min (n - off) off) = List.replicate (off + min (n - off) off) x ∧ (over l off (l.take (min (n - off) off))).length = n := by
  have h1 : l.take (min (n - off) off) = List.replicate (min (n - off) off) x := by
    rw [show min (n - off) off = min (min (n - off) off) off by omega, ← List.take_take, h, List.take_replicate]
  have hlen : (over l off (l.take (min (n - off) off))).length = n := by
    rw [over_len (by rw [List.length_take]; omega), hl]
  refine ⟨?_, hlen⟩
  unfold over
  rw [h1, h, List.take_append_of_le_length (by simp), List.replicate_append_replicate, List.take_of_length_le (by simp)]
set_option maxHeartbeats 1000000 in
theorem repeat_f {x : Int} {k : Int} (h : 1 ≤ k ∧ k ≤ 1000000) : FnI Tryd.prog 64 [pSl eI [x], pI k] 3 (List.replicate k.toNat x) := by
  refine fnI_of ent64 Tryd.func64 rfl Tryd.ntmps64 rfl fun M0 w0 => ?_
  have hkn : k.toNat = k := by omega
  (repeat (first | refine c_seq ?_ | refine c_reg ?_ | refine c_rnil ?_ | refine c_skip ?_ | refine c_false ?_ | refine c_yes ?_ | refine (c_make 1 100) ?_ | refine c_op (by first | exact t_call (h := (mul_f (k := k) (by omega))) | exact (t_cvU (h := (by first | omega | (simp; done)))) | exact (t_cvI) | exact (t_gtrF) | exact t_move | exact t_assign | exact t_pickF | exact t_lssF | exact t_ext0 | exact t_ext1 | exact t_len | fail) ?_ | fail))
  intro b
  have hll : (over (List.replicate k.toNat (0 : Int)) 0 [x]).length = k.toNat := by rw [over_len (by simp; omega), List.length_replicate]
  have hl1 : (over (List.replicate k.toNat (0 : Int)) 0 [x]).take 1 = List.replicate 1 x := by simp [over]
  (repeat (first | refine c_seq ?_ | refine c_reg ?_ | refine c_rnil ?_ | refine c_block ?_ | refine (c_copy 100 (hn := (by simp; omega)) (hl := (by simp; omega))) ?_ | refine c_op (by first | exact t_move | exact t_assign | fail) ?_ | fail))
  refine c_loop (fun y : List Int × Nat => [(0, .pu (pSl eI [x])), (7, .pu (pSr b k.toNat)), (100, .rw b 1 eI y.1 3), (8, .pu (pI y.2))])
    (fun y => y.1.length = k.toNat ∧ 1 ≤ y.2 ∧ y.2 ≤ k.toNat ∧ y.1.take y.2 = List.replicate y.2 x) (fun y => k.toNat - y.2) (over (List.replicate k.toNat (0 : Int)) 0 [x], 1) ⟨hll, Nat.le_refl _, by dsimp only; omega, hl1⟩ (by repeat (first | exact trivial | refine ⟨has_rfl rfl, ?_⟩ | fail)) ?_
  rintro ⟨l, off⟩ ⟨hl, ho, hok, ht⟩ ih
  dsimp only at hl ho hok ht ih ⊢
  by_cases hlt : off < k.toNat
  · obtain ⟨q1, q2⟩ := take_rep hl ho hlt ht
    (repeat (first | refine c_seq ?_ | refine c_reg ?_ | refine c_rnil ?_ | refine c_block ?_ | refine c_skip ?_ | refine c_true ?_ | refine c_op (by first | exact t_move | exact t_lssT | exact t_lenR | fail) ?_ | fail))
    refine c_draw {} 7 3 [0] [] mixed (by kernel_rfl) rfl rfl ?_
    (repeat (first | refine d_op (by first | exact (t_sliceRL) | exact (t_sliceRH) | exact t_move | fail) ?_ | fail))
    refine d_nil ?_
    refine q_copy 100 (i := 7) (by kernel_rfl) rfl ?_ (hn := hl) (hof := by omega) (hnn := by omega)
    refine q_op 8 (by kernel_rfl) rfl t_add ?_
    refine q_op 9 (by kernel_rfl) rfl t_assign ?_
    refine q_nil ?_ (by kernel_rfl)
    (repeat (first | refine c_inBlock ?_ | fail))
    exact (ih (over l off (l.take (min (k.toNat - off) off)), off + min (k.toNat - off) off) ⟨q2, by dsimp only; omega, by dsimp only; omega, q1⟩ (by dsimp only; omega)).sub (by repeat (first | exact trivial | refine ⟨has_rfl rfl, ?_⟩ | fail))
  · have : off = k.toNat := by omega
    subst this
    rw [← hl, List.take_length, hl] at ht
    (repeat (first | refine c_seq ?_ | refine c_reg ?_ | refine c_rnil ?_ | refine c_exit ?_ | refine c_false ?_ | refine c_op (by first | exact t_move | exact t_assign | exact t_lssF | exact t_lenR | fail) ?_ | fail))
    refine c_retI 100 Tryd.func64 rfl ht ?_
    simp
end Go.Proofs.YtedlipgopicijaaDoor
end

section
namespace Go.Proofs.YtedlipgopicijaaDoor
open Go Go.RowKit
def gapV (w : List Int) (m : Int) (i : Nat) : Int := 6 + (slk m w).tdiv (w.length - 1) + (if (i : Int) < (slk m w).tmod (w.length - 1) then 1 else 0)
def gapsM (w : List Int) (m : Int) (last : Bool) : List Int := (List.range (w.length - 1)).map fun i => if last then 6 else gapV w m i
theorem gapsM_len {w : List Int} {m : Int} {last : Bool} : (gapsM w m last).length = w.length - 1 := by simp [gapsM]
theorem gapsM_get {w : List Int} {m : Int} {last : Bool} {i : Nat} (h : i < (gapsM w m last).length) : (gapsM w m last)[i] = if last then 6 else gapV w m i := by simp [gapsM]
theorem repeatK_f {x k : Int} {K : Nat} (h : 1 ≤ k ∧ k ≤ 1000000) (hk : k = K) : FnI Tryd.prog 64 [pSl eI [x], pI k] 3 (List.replicate K x) := by
  have := repeat_f (x := x) h
  subst hk
  rwa [Int.toNat_natCast] at this
theorem gapsM_last {w : List Int} {m : Int} : gapsM w m true = List.replicate (w.length - 1) 6 := by
  unfold gapsM
  apply List.ext_getElem
  · simp
  · intro i h1 h2
    simp
set_option maxHeartbeats 1000000 in
theorem gaps_f {w : List Int} {m : Int} {last : Bool} (hm : 0 ≤ m ∧ m ≤ 2000) (hl : w.length ≤ 500) (hw : ∀ x ∈ w, 1 ≤ x ∧ x ≤ 480) :
    Fn Tryd.prog 38 [pSl eI w, pI m, pB last] (pSl eI (gapsM w m last)) := by
  refine fn_of ent38 Tryd.func38 rfl Tryd.ntmps38 rfl fun M0 w0 => ?_
  by_cases hk : w.length ≤ 1
  · have e : gapsM w m last = [] := by
      apply List.eq_nil_of_length_eq_zero
      rw [gapsM_len]
      omega
    rw [e]
    (repeat (first | refine c_seq ?_ | refine c_reg ?_ | refine c_rnil ?_ | refine c_true ?_ | refine c_op (by first | exact t_move | exact t_assign | exact t_sub | exact t_lssT | exact t_len | fail) ?_ | fail))
    refine c_ret1 Tryd.func38 rfl ?_
    intro M w' v h
    rw [show v = _ from h]
    exact SlOf.nil _ _ _
  obtain ⟨K, hK⟩ : ∃ K : Nat, w.length = K + 1 := ⟨w.length - 1, by omega⟩
  have hbd := slk_bd (m := m) hl hw
  (repeat (first | refine c_seq ?_ | refine c_reg ?_ | refine c_rnil ?_ | refine c_skip ?_ | refine c_false ?_ | refine c_op (by first | exact (t_bsI [6]) | exact (t_callI 2 (repeatK_f (K := K) (k := (w.length : Int) - 1) (by omega) (by omega))) | exact t_move | exact t_assignO | exact t_assign | exact t_sub | exact t_lssF | exact t_len | fail) ?_ | fail))
  refine c_row 8 100 fun b => ?_
  rw [List.length_replicate]
  refine c_ifb (fun hb => ?_) fun hb => ?_
  · subst hb
    rw [gapsM_last, show w.length - 1 = K by omega]
    refine c_frz 8 100 ?_
    (repeat (first | refine c_seq ?_ | refine c_reg ?_ | refine c_rnil ?_ | refine c_op (by first | exact t_move | exact t_assign | fail) ?_ | fail))
    refine c_ret1 Tryd.func38 rfl ?_
    exact fun h => h
  subst hb
  have hkI : (w.length : Int) - 1 = K := by omega
  have ht1 := tmod_rng (m := slk m w) (n := (w.length : Int) - 1) (by omega)
  have ht2 := tdiv_rng (m := slk m w) (n := (w.length : Int) - 1) (by unfold I64; omega) (by omega)
  have ht3 := Int.natAbs_tdiv_le_natAbs (slk m w) ((w.length : Int) - 1)
  (repeat (first | refine c_seq ?_ | refine c_reg ?_ | refine c_rnil ?_ | refine c_block ?_ | refine c_skip ?_ | refine c_op (by first | exact t_call (h := (slack_f hm hl hw)) | exact t_move | exact t_assign | exact t_lenR | fail) ?_ | fail))
  refine c_loop (fun x : List Int × Nat => [(0, .pu (pSl eI w)), (7, .pu (pI ((w.length : Int) - 1))), (8, .pu (pSr b K)), (100, .rw b 2 eI x.1 3), (9, .pu (pI (slk m w))), (25, .pu (pI K)), (26, .pu (pI x.2))])
    (fun x => x.1.length = K ∧ x.2 ≤ K ∧ (∀ j, j < x.2 → x.1[j]? = some (gapV w m j)) ∧ ∀ j, x.2 ≤ j → j < K → x.1[j]? = some 6) (fun x => K - x.2) (List.replicate K 6, 0) ⟨by simp, by omega, fun j hj => by dsimp only at hj; omega, fun j h1 h2 => by dsimp only; rw [List.getElem?_replicate, if_pos h2]⟩ (by repeat (first | exact trivial | refine ⟨has_rfl rfl, ?_⟩ | fail)) ?_
  rintro ⟨l, i⟩ ⟨hll, hi, hl1, hl2⟩ ih
  dsimp only at hll hi hl1 hl2 ih ⊢
  by_cases hlt : i < K
  · have hv := hl2 i (Nat.le_refl _) hlt
    (repeat (first | refine c_seq ?_ | refine c_reg ?_ | refine c_rnil ?_ | refine c_block ?_ | refine c_skip ?_ | refine c_true ?_ | refine c_op (by first | exact t_move | exact t_assign | exact t_lssT | fail) ?_ | fail))
    refine c_draw {} 9 1 [] [] mixed (by kernel_rfl) rfl rfl ?_
    (repeat (first | refine d_op (by first | exact (t_idxRN 100) | exact (t_loadRE 100 (hv := hv)) | exact t_move | exact t_add | exact t_quo | fail) ?_ | fail))
    refine d_nil ?_
    refine q_st 9 100 (by kernel_rfl) rfl (t_st 100) ?_
    refine q_nil ?_ (by kernel_rfl)
    have hset : ∀ (v : Int), v = gapV w m i → ∀ l' : List Int, l'.length = K → (∀ j, j ≠ i → l'[j]? = l[j]?) → l'[i]? = some v → (l'.length = K ∧ i + 1 ≤ K ∧ (∀ j, j < i + 1 → l'[j]? = some (gapV w m j)) ∧ ∀ j, i + 1 ≤ j → j < K → l'[j]? = some 6) := fun v hv l' h1 h2 h3 => by
      refine ⟨h1, by omega, fun j hj => ?_, fun j h4 h5 => ?_⟩
      · rcases Nat.lt_or_ge j i with h | h
        · rw [h2 j (by omega), hl1 j h]
        · rw [show j = i by omega, h3, hv]
      · rw [h2 j (by omega), hl2 j (by omega) h5]
    (repeat (first | refine c_seq ?_ | refine c_reg ?_ | refine c_rnil ?_ | refine c_op (by first | exact t_move | exact t_lss | exact t_rem | fail) ?_ | fail))
    refine c_if (fun hr => ?_) fun hr => ?_
    · have hv2 : (l.set i (6 + (slk m w).tdiv ((w.length : Int) - 1)))[i]? = some (6 + (slk m w).tdiv ((w.length : Int) - 1)) := by rw [List.getElem?_set_self (by omega)]
      (repeat (first | refine c_reg ?_ | refine c_rnil ?_ | refine c_inBlock ?_ | refine (c_st 100 (t_st 100)) ?_ | refine c_op (by first | exact (t_idxRN 100 (h0 := by omega)) | exact (t_loadRE 100 (hv := hv2)) | exact t_move | exact t_add | fail) ?_ | fail))
      refine (ih ((l.set i (6 + (slk m w).tdiv ((w.length : Int) - 1))).set i (6 + (slk m w).tdiv ((w.length : Int) - 1) + 1), i + 1) (hset (6 + (slk m w).tdiv ((w.length : Int) - 1) + 1) ?_ _ ?_ ?_ ?_) (by dsimp only; omega)).sub (by repeat (first | exact trivial | refine ⟨has_rfl rfl, ?_⟩ | fail))
      · unfold gapV
        rw [if_pos hr]
      · rw [List.length_set, List.length_set, hll]
      · intro j hj
        rw [List.getElem?_set_ne (by omega), List.getElem?_set_ne (by omega)]
      · rw [List.getElem?_set_self (by rw [List.length_set]; omega)]
    · (repeat (first | refine c_reg ?_ | refine c_rnil ?_ | refine c_inBlock ?_ | refine c_skip ?_ | refine c_op (by first | exact t_move | exact t_add | fail) ?_ | fail))
      refine (ih (l.set i (6 + (slk m w).tdiv ((w.length : Int) - 1)), i + 1) (hset (6 + (slk m w).tdiv ((w.length : Int) - 1)) ?_ _ ?_ ?_ ?_) (by dsimp only; omega)).sub (by repeat (first | exact trivial | refine ⟨has_rfl rfl, ?_⟩ | fail))
      · unfold gapV
        rw [if_neg hr, Int.add_zero]
      · rw [List.length_set, hll]
      · intro j hj
        rw [List.getElem?_set_ne (by omega)]
      · rw [List.getElem?_set_self (by omega)]
  · have e : l = gapsM w m false := by
      apply List.ext_getElem?
      intro j
      rcases Nat.lt_or_ge j K with h | h
      · rw [hl1 j (by omega), List.getElem?_eq_getElem (by rw [gapsM_len]; omega), gapsM_get]
        rfl
      · rw [List.getElem?_eq_none (by omega), List.getElem?_eq_none (by rw [gapsM_len]; omega)]
    subst e
    refine c_frz 8 100 ?_ (hn := by rw [gapsM_len]; omega)
    (repeat (first | refine c_seq ?_ | refine c_reg ?_ | refine c_rnil ?_ | refine c_exit ?_ | refine c_false ?_ | refine c_op (by first | exact t_move | exact t_assign | exact t_lssF | fail) ?_ | fail))
    refine c_ret1 Tryd.func38 rfl ?_
    exact fun h => h
end Go.Proofs.YtedlipgopicijaaDoor
end

section
namespace Go.Proofs.YtedlipgopicijaaDoor
open Go Go.RowKit
theorem ends_v {w r : List Int} {m : Int} (h : chk26 w m = 0) (h2 : endsM w m = r) : Fn Tryd.prog 36 [pSl eI w, pI m] (pT2 (pSl eI r) (pI 0)) := by
  have := ends_f (w := w) (m := m)
  rwa [if_pos h, h, h2] at this
theorem cost_v {w ends : List Int} {m c e : Int} (h : costM w m ends = (c, e)) : Fn Tryd.prog 37 [pSl eI w, pI m, pSl eI ends] (pT2 (pI c) (pI e)) := by
  have := cost_f (w := w) (m := m) (ends := ends)
  rwa [h] at this
theorem gaps_v {w r : List Int} {m : Int} {last : Bool} (hm : 0 ≤ m ∧ m ≤ 2000) (hl : w.length ≤ 500) (hw : ∀ x ∈ w, 1 ≤ x ∧ x ≤ 480) (h : gapsM w m last = r) : Fn Tryd.prog 38 [pSl eI w, pI m, pB last] (pSl eI r) := by
  have := gaps_f (w := w) (m := m) (last := last) hm hl hw
  rwa [h] at this
theorem same_v {a : List Int} : Fn Tryd.prog 35 [pSl eI a, pSl eI a] (pB true) := by
  have := sameInts_f (a := a) (b := a)
  rwa [decide_eq_true rfl] at this
set_option maxHeartbeats 2000000 in
theorem lives_f : Fn Tryd.prog 14 [] (pB true) := by
  have e1 := ends_v (w := [200, 200, 200, 90]) (m := 500) (r := [2, 4]) (by decide) (by decide)
  have e2 := ends_v (w := [247, 247, 247, 247]) (m := 500) (r := [2, 4]) (by decide) (by decide)
  have c1 := cost_v (w := [200, 200, 200, 90]) (m := 500) (ends := [2, 4]) (c := 8836) (e := 0) (by decide)
  have c2 := cost_v (w := [200, 200, 200, 90]) (m := 500) (ends := [1, 3, 4]) (c := 98836) (e := 0) (by decide)
  have c3 := cost_v (w := [200, 200, 200, 90]) (m := 500) (ends := [1, 4]) (c := 0) (e := 9) (by decide)
  have g1 := gaps_v (w := [100, 100, 100]) (m := 500) (last := false) (r := [100, 100]) (by decide) (by decide) (by decide) (by decide)
  have g2 := gaps_v (w := [100, 100, 99]) (m := 500) (last := false) (r := [101, 100]) (by decide) (by decide) (by decide) (by decide)
  have g3 := gaps_v (w := [100, 100, 99]) (m := 500) (last := true) (r := [6, 6]) (by decide) (by decide) (by decide) (by decide)
  have g4 := gaps_v (w := [9]) (m := 500) (last := false) (r := []) (by decide) (by decide) (by decide) (by decide)
  refine fn_of ent14 Tryd.func14 rfl Tryd.ntmps14 rfl fun M0 w0 => ?_
  (repeat (first | refine c_seq ?_ | refine c_reg ?_ | refine c_rnil ?_ | refine c_skip ?_ | refine c_false ?_ | refine c_yes ?_ | refine c_op (by first | exact t_call (h := e1) | exact t_call (h := e2) | exact t_call (h := c1) | exact t_call (h := c2) | exact t_call (h := c3) | exact t_call (h := g1) | exact t_call (h := g2) | exact t_call (h := g3) | exact t_call (h := g4) | exact t_call (h := same_v) | exact (t_bsI [200, 200, 200, 90]) | exact (t_bsI [2, 4]) | exact (t_bsI [1, 3, 4]) | exact (t_bsI [1, 4]) | exact (t_bsI [247, 247, 247, 247]) | exact (t_bsI [100, 100, 100]) | exact (t_bsI [100, 100, 99]) | exact (t_bsI [100, 100]) | exact (t_bsI [101, 100]) | exact (t_bsI [6, 6]) | exact (t_bsI [9]) | exact t_move | exact t_assign | exact t_pickT | exact t_pickF | exact t_eql | exact t_neqF | exact t_ext0 | exact t_ext1 | exact t_len | fail) ?_ | fail))
  refine c_ret1 Tryd.func14 rfl ?_
  exact fun h => h
end Go.Proofs.YtedlipgopicijaaDoor
end

section
namespace Go.Proofs.YtedlipgopicijaaDoor
theorem chk_of {w : List Int} {m : Int} (hl : w.length ≤ 500) (hm : 500 ≤ m ∧ m ≤ 2000) (hw : ∀ x ∈ w, 1 ≤ x ∧ x ≤ 480) : chk26 w m = 0 := by
  unfold chk26
  rw [if_neg (by omega), if_neg (by omega), if_pos (okW_of hw)]
end Go.Proofs.YtedlipgopicijaaDoor
end

section
namespace Go.Proofs.YtedlipgopicijaaDoor
open Go Go.RowKit
def segW (ws : List Wd) (a b : Int) : List Wd := (ws.drop a.toNat).take (b.toNat - a.toNat)
def notesW (l : List Wd) : List Int := (l.filter fun w => decide (w.note ≠ 0)).map fun w => w.note - 1
def widsW (ws : List Wd) : List Int := ws.map fun w => widM w.s
def lnGo (ws : List Wd) (first m : Int) : Int → List Int → List Line
  | _, [] => []
  | a, e :: r => ⟨first + a, first + e, gapsM (seg (widsW ws) a e) m (decide (r = [])), notesW (segW ws a e)⟩ :: lnGo ws first m e r
def lnsM (ws : List Wd) (first m : Int) : List Line := lnGo ws first m 0 (endsM (widsW ws) m)
structure OKR (ws : List Wd) : Prop where
  len : ws.length ≤ 500
  wid : ∀ w ∈ ws, 1 ≤ widM w.s
  note : ∀ w ∈ ws, 0 ≤ w.note ∧ w.note ≤ 100
theorem widsW_len (ws : List Wd) : (widsW ws).length = ws.length := by simp [widsW]
theorem widsW_get (ws : List Wd) (i : Nat) (h : i < ws.length) : (widsW ws)[i]'(by rw [widsW_len]; exact h) = widM ws[i].s := by simp [widsW]
theorem OKR.ok {ws : List Wd} (h : OKR ws) : ∀ x ∈ widsW ws, 1 ≤ x ∧ x ≤ 480 := by
  intro x hx
  obtain ⟨w, hw, rfl⟩ := List.mem_map.1 hx
  exact ⟨h.wid w hw, (widM_rng w.s).2⟩
theorem OKR.chk {ws : List Wd} (h : OKR ws) {m : Int} (hm : 500 ≤ m ∧ m ≤ 2000) : chk26 (widsW ws) m = 0 := chk_of (by rw [widsW_len]; exact h.len) hm h.ok
theorem ends_ord {w : List Int} {m : Int} (hm : 500 ≤ m) (hw : ∀ x ∈ w, 1 ≤ x ∧ x ≤ 480) : ordE w.length 0 (endsM w m) = true :=
  (walk_cost m hm hw (w.length + 1) 0 (by omega) (by omega)).1
theorem ordE_cons {n a e : Int} {r : List Int} (h : ordE n a (e :: r) = true) : a < e ∧ e ≤ n ∧ ordE n e r = true := by
  simp only [ordE, Bool.and_eq_true, decide_eq_true_eq] at h
  exact ⟨h.1, (ordE_le h.2).1, h.2⟩
theorem ordE_nil {n a : Int} (h : ordE n a [] = true) : a = n := by simpa [ordE] using h
theorem notesW_append (a b : List Wd) : notesW (a ++ b) = notesW a ++ notesW b := by simp [notesW]
theorem notesW_one (w : Wd) : notesW [w] = if w.note ≠ 0 then [w.note - 1] else [] := by
  unfold notesW
  by_cases h : w.note = 0 <;> simp [h]
theorem segW_len {w : List Wd} {a b : Int} (h1 : 0 ≤ a) (h2 : a ≤ b) (h3 : b ≤ w.length) : (segW w a b).length = b.toNat - a.toNat := by
  unfold segW; rw [List.length_take, List.length_drop]; omega
theorem segW_mem {w : List Wd} {a b : Int} : ∀ x ∈ segW w a b, x ∈ w := fun x hx => List.mem_of_mem_drop (List.mem_of_mem_take hx)
def bodyGo (m : Int) : Int → List (List Wd) → List Line
  | _, [] => []
  | first, p :: r => lnsM p first m ++ bodyGo m (first + p.length) r
def notesGo (m : Int) : Int → List (List Wd) → List (List Line)
  | _, [] => []
  | first, p :: r => lnsM p first m :: notesGo m (first + p.length) r
def wordsN (l : List (List Wd)) : Nat := (l.map List.length).sum
end Go.Proofs.YtedlipgopicijaaDoor
end

section
namespace Go.Proofs.YtedlipgopicijaaDoor
open Go Go.RowKit
def pLn0 (a e : Int) (gaps : List Int) : Pub := ⟨fun M w v => ∃ gv, v = .agg #[.int .i64 a, .int .i64 e, gv, .slice none 0 0] ∧ I64 a ∧ I64 e ∧ SlOf eI M w gv gaps, fun hx ⟨gv, h1, h2, h3, h4⟩ => ⟨gv, h1, h2, h3, h4.mono hx⟩⟩
def slG (v : Value) (l : List Int) : Gh where
  tags := []
  p := fun _ M w _ => SlOf eI M w v l
  mono := fun h hs _ => h.mono hs.x
section
variable {P : Program} {N : Nat} {G : TF} {d : Option Tmp} {ty : TypeId} {pos : String} {aft : Array Edge} {g : Option (Nat × Bool)}
theorem t_blLn {x y z : Operand} {a e : Int} {gaps : List Int} (hx : topP G x = some (pI a) := by rfl) (hy : topP G y = some (pI e) := by rfl) (hz : topP G z = some (pSl eI gaps) := by rfl) :
    TOp Tryd.prog N ⟨d, .build 42 #[(0, x), (1, y), (2, z)], ty, pos, aft, g⟩ G [] (.pu (pLn0 a e gaps)) := .pure [x, y, z] (by simp [Op.operands]) fun {B M w fr} hf => by
  obtain ⟨_, h0, rfl, r0⟩ := hf.op hx (by simp)
  obtain ⟨_, h1, rfl, r1⟩ := hf.op hy (by simp)
  obtain ⟨gv, h2, h3⟩ := hf.op hz (by simp)
  obtain ⟨ad, cap, e1, _⟩ := h3.ex
  exact op_build (parts := [(0, x), (1, y), (2, z)]) (vs := [.int .i64 a, .int .i64 e, gv]) (pl := [(0, [.int .i64 a]), (1, [.int .i64 e]), (2, [gv])]) sbL (by simp [opvs, h0, h1, h2])
    ⟨rfl, rfl, Nat.le_of_ble_eq_true rfl, rfl, rfl, Nat.le_of_ble_eq_true rfl, rfl, by rw [e1]; rfl, Nat.le_of_ble_eq_true rfl, trivial⟩ ⟨rfl, gv, rfl, r0.1 rfl, r1.1 rfl, h3⟩
theorem t_loadLn {x : Operand} {b tag tn : Nat} {gv nv : Value} {a e : Int} {gaps notes : List Int} {te en : TypeId} (key kg kn : Nat) (hx : topP G x = some (pCe b 0) := by rfl) (hg : tlook G key = some (.bx b tag [.int .i64 a, .int .i64 e, gv, nv] te) := by rfl)
    (hb : tlook G kg = some (.gh (slG gv gaps)) := by rfl) (hn : tlook G kn = some (.gv nv eI notes tn en) := by rfl) (ha : I64 a) (he : I64 e) :
    TOp Tryd.prog N ⟨d, .load 42 x, ty, pos, aft, g⟩ G [] (.pu (pV eLine ⟨a, e, gaps, notes⟩)) := .pure [x] (by simp [Op.operands]) fun {B M w fr} hf => by
  obtain ⟨_, k0, rfl⟩ := hf.op hx (by simp)
  obtain ⟨_, hbx⟩ := hf.out key _ hg (.inl rfl)
  have h1 := hf.out kg _ hb (.inl rfl)
  obtain ⟨h2, _⟩ := hf.out kn _ hn (.inl rfl)
  exact op_loadn tdL k0 hbx (Nat.le_refl _) ⟨rfl, _, eLine_R.2 ⟨gv, nv, rfl, ha, he, h1, h2⟩, rfl⟩
end
instance focLn3 : FOc Tryd.prog 42 3 3 := ⟨fdL3⟩
instance t1cSI : T1c Tryd.prog 22 := ⟨24, _, tdSI⟩
section
variable {f : FuncId} {N : Nat} {M0 : Mut} {w0 : World} {R : Value → World → Prop} {G : TF} {k : List Item}
variable {ops : Array Oper} {ty : TypeId} {pos : String} {aft : Array Edge} {rest : List Oper}
theorem stLn_run {M : Mut} {w : World} {fr : Fr} {x y : Operand} {b tag : Nat} {cs : List Value} {te : TypeId} {a e : Int} {gaps : List Int} {v : Value} {Ψ : Value → World → Prop} {dd : Option Tmp} {g : Option (Nat × Bool)} (hr : Rn M0 w0 M w) (hx : opv fr x = some (.pointer (some ⟨b, 0, none⟩)))
    (hy : opv fr y = some v) (hv : (pLn0 a e gaps).p M w v) (hB : w0.heap.size ≤ b) (hb : Box M w b tag cs te) (hl : cs.length = 4)
    (h : ∀ (ad : Option Addr) (n cap : Nat) (M' : Mut) (w' : World), StW w0.heap.size [tag] M w M' w' → Box M' w' b tag [.int .i64 a, .int .i64 e, .slice ad n cap, .slice none 0 0] te → SlOf eI M' w' (.slice ad n cap) gaps → I64 a → I64 e → Ψ undef w') :
    OP Tryd.prog N ⟨dd, .store 42 x y, ty, pos, aft, g⟩ fr w Ψ := by
  obtain ⟨gv, rfl, i1, i2, h1⟩ := hv
  obtain ⟨ad, cap, rfl, _⟩ := h1.ex
  refine op_store tdL hx hy (c := [.int .i64 a, .int .i64 e, .slice ad gaps.length cap, .slice none 0 0]) rfl (by simp [Value.oneCell']) rfl hr hB hb (by rw [hl]; exact Nat.le_refl _) fun w' hb' hst => ?_
  refine h ad gaps.length cap M w' (StW.st hst) ?_ (h1.mono hst.x) i1 i2
  have hsp : splice cs 0 [.int .i64 a, .int .i64 e, .slice ad gaps.length cap, .slice none 0 0] = [.int .i64 a, .int .i64 e, .slice ad gaps.length cap, .slice none 0 0] := by
    unfold splice
    rw [List.take_zero, List.nil_append, List.drop_of_length_le (by rw [hl]; exact Nat.le_refl _), List.append_nil]
  rw [hsp] at hb'
  exact hb'
theorem c_stLn {x y : Operand} {b tag : Nat} {cs : List Value} {te : TypeId} {a e : Int} {gaps : List Int} (key kg kn tn : Nat)
    (hk : ∀ (ad : Option Addr) (n cap : Nat), I64 a → I64 e → RLt Tryd.prog f N M0 w0 ops k R rest ((key, .bx b tag [.int .i64 a, .int .i64 e, .slice ad n cap, .slice none 0 0] te) :: (kg, .gh (slG (.slice ad n cap) gaps)) :: (kn, .gv (.slice none 0 0) eI [] tn 3) :: dropW [tag] G))
    (hx : topP G x = some (pCe b 0) := by rfl) (hg : tlook G key = some (.bx b tag cs te) := by rfl) (hy : topP G y = some (pLn0 a e gaps) := by rfl) (hl : cs.length = 4 := by rfl) :
    RLt Tryd.prog f N M0 w0 ops k R (⟨none, .store 42 x y, ty, pos, aft, none⟩ :: rest) G := ⟨fun {M w fr} hr hf => by
  obtain ⟨_, h1, rfl⟩ := hf.op0 hx (fun _ _ => trivial)
  obtain ⟨v, h2, h3⟩ := hf.op0 hy (fun _ _ => trivial)
  obtain ⟨hB, hb⟩ := hf.out key _ hg (.inr trivial)
  refine rl_step0 (stLn_run hr h1 h2 h3 hB hb hl fun ad n cap M' w' hs hb' hsl i1 i2 => ?_)
  exact (hk ad n cap i1 i2).out (hr.stw hs) (Fit.hide (T := .bx _ _ _ _) (Fit.hide (T := .gh (slG (.slice ad n cap) gaps)) (Fit.hide (T := .gv (.slice none 0 0) eI [] tn 3) (hf.after hs) ⟨SlOf.nil _ _ _, Grow.nil⟩) hsl) ⟨hB, hb'⟩)⟩
end
theorem row_set {w : List Int} {i n : Nat} (hn : w.length = n) (h : i < n) : (w.take i ++ List.replicate (n - i) 0).set i (w[i]'(by omega)) = w.take (i + 1) ++ List.replicate (n - (i + 1)) 0 := by
  have hl : (w.take i).length = i := by rw [List.length_take]; omega
  rw [List.set_append, if_neg (by omega), hl, Nat.sub_self, List.take_succ_eq_append_getElem (by omega), show n - i = (n - (i + 1)) + 1 by omega, List.replicate_succ, List.set_cons_zero, List.append_assoc]
  rfl
theorem row_end {w : List Int} {i n : Nat} (hn : w.length = n) (h : n ≤ i) : w.take i ++ List.replicate (n - i) 0 = w := by
  rw [List.take_of_length_le (by omega), show n - i = 0 by omega]; simp
end Go.Proofs.YtedlipgopicijaaDoor
end

section
namespace Go.Proofs.YtedlipgopicijaaDoor
open Go Go.RowKit
theorem ordEn_len {n : Int} : ∀ {l : List Int} {a : Int}, ordE n a l = true → (l.length : Int) ≤ n - a
  | [], a, h => by have := ordE_nil h; simp; omega
  | e :: r, a, h => by
    obtain ⟨h1, h2, h3⟩ := ordE_cons h
    have := ordEn_len h3
    simp only [List.length_cons]
    omega
theorem lrow_set {L : List Line} {i n : Nat} {z x : Line} (hL : L.length = i) (h : i < n) : (L ++ List.replicate (n - i) z).set i x = L ++ [x] ++ List.replicate (n - (i + 1)) z := by
  rw [List.set_append, if_neg (by omega), hL, Nat.sub_self, show n - i = (n - (i + 1)) + 1 by omega, List.replicate_succ, List.set_cons_zero, List.append_assoc]
  rfl
set_option maxHeartbeats 16000000 in
theorem setL_f {ws : List Wd} {first m : Int} (hm : 500 ≤ m ∧ m ≤ 2000) (hf : 0 ≤ first ∧ first ≤ 1000000) (h : OKR ws) : Fn Tryd.prog 32 [pSl eWord ws, pI first, pI m] (pSl eLine (lnsM ws first m)) := by
  have hl := h.len
  have hwl := widsW_len ws
  have hchk := h.chk hm
  refine fn_of ent32 Tryd.func32 rfl Tryd.ntmps32 rfl fun M0 w0 => ?_
  (repeat (first | refine c_seq ?_ | refine c_reg ?_ | refine c_rnil ?_ | refine (c_make 1 100) ?_ | refine c_op (by first | exact t_move | exact t_assign | exact t_len | fail) ?_ | fail))
  intro b
  (repeat (first | refine c_seq ?_ | refine c_reg ?_ | refine c_rnil ?_ | refine c_block ?_ | refine c_op (by first | exact t_move | exact t_assign | exact t_len | fail) ?_ | fail))
  refine c_loop (fun i : Nat => [(0, .pu (pSl eWord ws)), (1, .pu (pI first)), (2, .pu (pI m)), (7, .pu (pSr b ws.length)), (100, .rw b 1 eI ((widsW ws).take i ++ List.replicate (ws.length - i) 0) 3), (22, .pu (pSl eWord ws)), (23, .pu (pI ws.length)), (24, .pu (pI i))])
    (fun i => i ≤ ws.length) (fun i => ws.length - i) 0 (by omega) (by repeat (first | exact trivial | refine ⟨has_rfl rfl, ?_⟩ | fail)) fun i hi ih => ?_
  by_cases hlt : i < ws.length
  · have hset := row_set (w := widsW ws) hwl hlt
    rw [widsW_get ws i hlt] at hset
    (repeat (first | refine c_seq ?_ | refine c_reg ?_ | refine c_rnil ?_ | refine c_block ?_ | refine c_inBlock ?_ | refine c_skip ?_ | refine c_true ?_ | refine (c_st 100 (t_st 100 (hi := (by simp; omega)))) ?_ | refine c_op (by first | exact t_call (h := width25_f) | exact (t_idxR 100) | exact t_move | exact t_assign | exact t_add | exact t_lssT | exact t_idxN | exact t_load | exact t_fa | exact t_allocV | fail) ?_ | refine c_stV ?_ | fail))
    refine (ih (i + 1) (by omega) (by omega)).sub ?_
    rw [← hset]
    (repeat' (first | exact trivial | refine ⟨?_, ?_⟩ | fail)) <;> (try first | exact has_rfl rfl | exact has_nil rfl | exact has_nilS rfl | exact has_gr rfl | exact has_nilGo rfl | exact has_int rfl (by first | omega | fail) | fail)
  (repeat (first | refine c_seq ?_ | fail))
  refine c_reg ?_
  (repeat (first | refine c_seq ?_ | refine c_rnil ?_ | refine c_exit ?_ | refine c_false ?_ | refine c_op (by first | exact t_lssF | fail) ?_ | fail))
  refine c_frz 7 100 ?_ (hn := by simp; omega)
  refine c_to 7 (.pu (pSl eI (widsW ws))) ?_ ?_
  · exact has_sl rfl (row_end hwl (by omega))
  obtain ⟨E, hE⟩ : ∃ E, E = endsM (widsW ws) m := ⟨_, rfl⟩
  have hord : ordE ws.length 0 E = true := by rw [hE, ← hwl]; exact ends_ord hm.1 h.ok
  have hEl := ordEn_len hord
  have hgo : lnGo ws first m 0 E = lnsM ws first m := by rw [hE]; rfl
  (repeat (first | refine c_seq ?_ | refine c_reg ?_ | refine c_rnil ?_ | refine (c_make 2 101) ?_ | refine c_op (by first | exact t_call (h := (ends_v hchk hE.symm)) | exact t_move | exact t_assign | exact t_ext0 | exact t_ext1 | exact t_len | fail) ?_ | fail))
  intro b2
  (repeat (first | refine c_seq ?_ | refine c_reg ?_ | refine c_rnil ?_ | refine c_block ?_ | refine c_op (by first | exact t_move | exact t_assign | exact t_len | fail) ?_ | fail))
  refine c_loop (fun x : Nat × Int × List Line => [(0, .pu (pSl eWord ws)), (1, .pu (pI first)), (2, .pu (pI m)), (7, .pu (pSl eI (widsW ws))), (10, .pu (pSl eI E)), (12, .pu (pSr b2 E.length)), (101, .rw b2 2 eLine (x.2.2 ++ List.replicate (E.length - x.1) ⟨0, 0, [], []⟩) 42), (13, .pu (pI x.2.1)), (45, .pu (pSl eI E)), (46, .pu (pI E.length)), (47, .pu (pI x.1))])
    (fun x => x.1 ≤ E.length ∧ x.2.2.length = x.1 ∧ x.2.2 ++ lnGo ws first m x.2.1 (E.drop x.1) = lnsM ws first m ∧ ordE ws.length x.2.1 (E.drop x.1) = true ∧ 0 ≤ x.2.1) (fun x => E.length - x.1) (0, 0, []) ⟨by simp, rfl, hgo, hord, by simp⟩ (by repeat (first | exact trivial | refine ⟨has_rfl rfl, ?_⟩ | fail)) ?_
  rintro ⟨i, a, L⟩ ⟨hi, hLi, hLs, ho, ha⟩ ih
  dsimp only at hi hLi hLs ho ha ih ⊢
  by_cases hlt : i < E.length
  · have hdrop : E.drop i = E[i] :: E.drop (i + 1) := List.drop_eq_getElem_cons hlt
    rw [hdrop] at ho hLs
    obtain ⟨o1, o2, o3⟩ := ordE_cons ho
    obtain ⟨e, he⟩ : ∃ e, e = E[i] := ⟨_, rfl⟩
    rw [← he] at o1 o2 o3 hLs
    have hlast : decide (E.drop (i + 1) = []) = decide ((i : Int) = E.length - 1) := decide_eq_decide.2 (by rw [List.drop_eq_nil_iff]; omega)
    have hseg1 : (seg (widsW ws) a e).length ≤ 500 := by have := seg_len (w := widsW ws) (a := a) (b := e); omega
    have hseg2 : ∀ x ∈ seg (widsW ws) a e, 1 ≤ x ∧ x ≤ 480 := fun x hx => h.ok x (seg_mem x hx)
    have hsegl := segW_len (w := ws) ha (by omega) o2
    have hsegn : ∀ w ∈ segW ws a e, 0 ≤ w.note ∧ w.note ≤ 100 := fun w hw => h.note w (segW_mem w hw)
    have gf := gaps_f (m := m) (last := decide ((i : Int) = E.length - 1)) (by omega) hseg1 hseg2
    unfold seg at gf
    subst he
    (repeat (first | refine c_seq ?_ | refine c_reg ?_ | refine c_rnil ?_ | refine c_block ?_ | refine c_skip ?_ | refine c_true ?_ | refine (c_allocB 3 102 tdL) ?_ | refine c_op (by first | exact t_call (h := gf) | exact (t_sliceM) | exact (t_blLn) | exact t_move | exact t_assign | exact t_add | exact t_sub | exact t_lssT | exact t_eql | exact t_len | exact t_idxN | exact t_load | fail) ?_ | fail))
    intro b3
    refine c_stLn 102 103 104 4 fun ad n cap i1 i2 => ?_
    (repeat (first | refine c_seq ?_ | refine c_reg ?_ | refine c_rnil ?_ | refine c_block ?_ | refine c_op (by first | exact t_move | exact t_len | exact t_sliceLH | fail) ?_ | fail))
    refine c_loop (fun x : Nat × Value => [(0, .pu (pSl eWord ws)), (1, .pu (pI first)), (2, .pu (pI m)), (7, .pu (pSl eI (widsW ws))), (10, .pu (pSl eI E)), (12, .pu (pSr b2 E.length)), (101, .rw b2 2 eLine (L ++ List.replicate (E.length - i) ⟨0, 0, [], []⟩) 42), (13, .pu (pI a)), (14, .pu (pI i)), (15, .pu (pI E[i])),
        (16, .pu (pCe b3 0)), (102, .bx b3 3 [.int .i64 (first + a), .int .i64 (first + E[i]), .slice ad n cap, x.2] 42), (103, .gh (slG (.slice ad n cap) (gapsM (seg (widsW ws) a E[i]) m (decide ((i : Int) = E.length - 1))))), (104, .gv x.2 eI (notesW ((segW ws a E[i]).take x.1)) 4 3),
        (45, .pu (pSl eI E)), (46, .pu (pI E.length)), (47, .pu (pI i)), (74, .pu (pSl eWord (segW ws a E[i]))), (75, .pu (pI (segW ws a E[i]).length)), (76, .pu (pI x.1))])
      (fun x => x.1 ≤ (segW ws a E[i]).length) (fun x => (segW ws a E[i]).length - x.1) (0, .slice none 0 0) (by simp) (by repeat (first | exact trivial | refine ⟨has_rfl rfl, ?_⟩ | fail)) ?_
    rintro ⟨k, nv⟩ hk ih3
    dsimp only at hk ih3 ⊢
    by_cases hlk : k < (segW ws a E[i]).length
    · have hnt := hsegn _ (List.getElem_mem hlk)
      have htk : notesW ((segW ws a E[i]).take (k + 1)) = notesW ((segW ws a E[i]).take k) ++ if (segW ws a E[i])[k].note ≠ 0 then [(segW ws a E[i])[k].note - 1] else [] := by
        rw [List.take_succ_eq_append_getElem hlk, notesW_append, notesW_one]
      by_cases hno : (segW ws a E[i])[k].note = 0
      · rw [if_neg (fun hc => hc hno), List.append_nil] at htk
        (repeat (first | refine c_seq ?_ | refine c_reg ?_ | refine c_rnil ?_ | refine c_block ?_ | refine c_inBlock ?_ | refine c_skip ?_ | refine c_true ?_ | refine c_false ?_ | refine c_op (by first | exact t_move | exact t_add | exact t_lssT | exact t_neqF | exact t_idxN | exact t_load | exact t_fa | exact t_allocV | fail) ?_ | refine c_stV ?_ | fail))
        refine (ih3 (k + 1, nv) (by dsimp only; omega) (by dsimp only; omega)).sub ?_
        dsimp only
        rw [htk]
        (repeat' (first | exact trivial | refine ⟨?_, ?_⟩ | fail)) <;> (try first | exact has_rfl rfl | exact has_nil rfl | exact has_nilS rfl | exact has_gr rfl | exact has_nilGo rfl | exact has_int rfl (by first | omega | fail) | fail)
      · rw [if_pos hno] at htk
        have hnl : (notesW ((segW ws a E[i]).take k)).length ≤ 500 := by
          unfold notesW
          rw [List.length_map]
          refine Nat.le_trans (List.length_filter_le _ _) ?_
          rw [List.length_take]; omega
        (repeat (first | refine c_seq ?_ | refine c_reg ?_ | refine c_rnil ?_ | refine c_block ?_ | refine c_skip ?_ | refine c_true ?_ | refine (c_opW (t_appV 104)) ?_ | refine c_op (by first | exact (t_faB) | exact (t_loadB 102) | exact t_sub | exact t_lssT | exact t_neqT | exact t_idxN | exact t_load | exact t_fa | exact t_bs | exact t_allocV | fail) ?_ | refine c_stV ?_ | fail))
        refine r_name 89 104 fun nv2 => ?_
        refine c_st 102 (t_stV 102 104) ?_
        (repeat (first | refine c_reg ?_ | refine c_rnil ?_ | refine c_inBlock ?_ | refine c_op (by first | exact t_move | exact t_add | fail) ?_ | fail))
        refine (ih3 (k + 1, nv2) (by dsimp only; omega) (by dsimp only; omega)).sub ?_
        dsimp only
        rw [htk]
        (repeat' (first | exact trivial | refine ⟨?_, ?_⟩ | fail)) <;> (try first | exact has_rfl rfl | exact has_nil rfl | exact has_nilS rfl | exact has_gr rfl | exact has_nilGo rfl | exact has_int rfl (by first | omega | fail) | fail)
    · have htk : (segW ws a E[i]).take k = segW ws a E[i] := List.take_of_length_le (by omega)
      rw [htk]
      have hrow := lrow_set (L := L) (n := E.length) (z := ⟨0, 0, [], []⟩) (x := ⟨first + a, first + E[i], gapsM (seg (widsW ws) a E[i]) m (decide ((i : Int) = E.length - 1)), notesW (segW ws a E[i])⟩) hLi hlt
      (repeat (first | refine c_seq ?_ | refine c_reg ?_ | refine c_rnil ?_ | refine c_inBlock ?_ | refine c_exit ?_ | refine c_false ?_ | refine (c_st 101 (t_st 101 (hi := (by simp; omega)))) ?_ | refine c_op (by first | exact (t_loadLn 102 103 104 (ha := i1) (he := i2)) | exact (t_idxR 101) | exact t_move | exact t_assign | exact t_add | exact t_lssF | fail) ?_ | fail))
      refine (ih (i + 1, E[i], L ++ [⟨first + a, first + E[i], gapsM (seg (widsW ws) a E[i]) m (decide ((i : Int) = E.length - 1)), notesW (segW ws a E[i])⟩]) ⟨by dsimp only; omega, by dsimp only; simp [hLi], ?_, o3, by dsimp only; omega⟩ (by dsimp only; omega)).sub ?_
      · dsimp only
        rw [← hLs]
        simp only [lnGo, List.append_assoc, List.cons_append, List.nil_append, hlast]
      · dsimp only
        rw [← hrow]
        (repeat' (first | exact trivial | refine ⟨?_, ?_⟩ | fail)) <;> (try first | exact has_rfl rfl | exact has_nil rfl | exact has_nilS rfl | exact has_gr rfl | exact has_nilGo rfl | exact has_int rfl (by first | omega | fail) | fail)
  · have hd : E.drop i = [] := List.drop_of_length_le (by omega)
    rw [hd] at hLs
    simp only [lnGo, List.append_nil] at hLs
    (repeat (first | refine c_seq ?_ | fail))
    refine c_reg ?_
    (repeat (first | refine c_seq ?_ | refine c_rnil ?_ | refine c_exit ?_ | refine c_false ?_ | refine c_op (by first | exact t_lssF | fail) ?_ | fail))
    refine c_frz 12 101 ?_ (hn := by simp; omega)
    refine c_to 12 (.pu (pSl eLine (lnsM ws first m))) ?_ ?_
    · exact has_sl rfl (by rw [show E.length - i = 0 by omega, ← hLs]; simp)
    (repeat (first | refine c_reg ?_ | refine c_rnil ?_ | refine c_op (by first | exact t_move | exact t_assign | fail) ?_ | fail))
    refine c_ret1 Tryd.func32 rfl ?_
    exact fun h => h
end Go.Proofs.YtedlipgopicijaaDoor
end

section
namespace Go.Proofs.YtedlipgopicijaaDoor
open Go Go.RowKit
end Go.Proofs.YtedlipgopicijaaDoor
end

section
namespace Go.Proofs.YtedlipgopicijaaDoor
open Go Go.RowKit
theorem wErr_ok {w : Wd} {nx n : Int} (h : wErr w nx n = 0) : 0 < widM w.s ∧ (w.key = emp ∨ 0 < widM w.key) ∧ (w.table = 0 ∨ w.table = 1) ∧ (w.note = 0 ∨ (w.note = nx ∧ w.note ≤ n)) := by
  unfold wErr at h
  split at h
  · cases h
  · rename_i h1
    split at h
    · cases h
    · rename_i h2
      split at h
      · cases h
      · rename_i h3
        refine ⟨Classical.byContradiction fun c => h1 (.inl c), ?_, by omega, ?_⟩
        · by_cases hk : w.key = emp
          · exact .inl hk
          · exact .inr (Classical.byContradiction fun c => h1 (.inr ⟨hk, c⟩))
        · by_cases h0 : w.note = 0
          · exact .inl h0
          · refine .inr ⟨Classical.byContradiction fun c => h3 ⟨h0, .inl c⟩, ?_⟩
            by_cases hn : n < w.note
            · exact absurd ⟨h0, .inr hn⟩ h3
            · omega
theorem chkP_ok {n : Int} {K : Int → Int} : ∀ {l : List Wd} {next : Int}, 1 ≤ next → chkP n K l next = 0 → (∀ w ∈ l, ∃ nx, 1 ≤ nx ∧ wErr w nx n = 0) ∧ ∃ nx, 1 ≤ nx ∧ K nx = 0
  | [], next, h1, h => ⟨(fun w hw => by cases hw), next, h1, h⟩
  | w :: r, next, h1, h => by
    simp only [chkP] at h
    by_cases he : wErr w next n = 0
    · rw [if_neg (fun c => c he)] at h
      have h2 : 1 ≤ (if w.note ≠ 0 then next + 1 else next) := by split <;> omega
      obtain ⟨k1, k2⟩ := chkP_ok h2 h
      exact ⟨fun x hx => by
        rcases List.mem_cons.1 hx with rfl | hx
        · exact ⟨next, h1, he⟩
        · exact k1 x hx, k2⟩
    · rw [if_pos he] at h
      exact absurd h he
theorem chkA_ok {n : Int} {K : Int → Int} : ∀ {l : List (List Wd)} {next : Int}, 1 ≤ next → chkA n K l next = 0 → (∀ p ∈ l, ∀ w ∈ p, ∃ nx, 1 ≤ nx ∧ wErr w nx n = 0) ∧ ∃ nx, 1 ≤ nx ∧ K nx = 0
  | [], next, h1, h => ⟨(fun w hw => by cases hw), next, h1, h⟩
  | p :: r, next, h1, h => by
    simp only [chkA] at h
    obtain ⟨k1, nx, k2, k3⟩ := chkP_ok h1 h
    obtain ⟨k4, k5⟩ := chkA_ok k2 k3
    exact ⟨fun q hq => by
      rcases List.mem_cons.1 hq with rfl | hq
      · exact k1
      · exact k4 q hq, k5⟩
theorem chkQ_ok {K : Int} : ∀ {l : List Wd}, chkQ K l = 0 → (∀ w ∈ l, wErr w 0 0 = 0) ∧ K = 0
  | [], h => ⟨(fun w hw => by cases hw), h⟩
  | w :: r, h => by
    simp only [chkQ] at h
    by_cases he : wErr w 0 0 = 0
    · rw [if_neg (fun c => c he)] at h
      obtain ⟨k1, k2⟩ := chkQ_ok h
      exact ⟨fun x hx => by
        rcases List.mem_cons.1 hx with rfl | hx
        · exact he
        · exact k1 x hx, k2⟩
    · rw [if_pos he] at h
      exact absurd h he
theorem chkB_ok {K : Int} : ∀ {l : List (List Wd)}, chkB K l = 0 → (∀ p ∈ l, ∀ w ∈ p, wErr w 0 0 = 0) ∧ K = 0
  | [], h => ⟨(fun w hw => by cases hw), h⟩
  | p :: r, h => by
    simp only [chkB] at h
    obtain ⟨k1, k2⟩ := chkQ_ok h
    obtain ⟨k4, k5⟩ := chkB_ok k2
    exact ⟨fun q hq => by
      rcases List.mem_cons.1 hq with rfl | hq
      · exact k1
      · exact k4 q hq, k5⟩
structure OKT (t : Tx) : Prop where
  np : t.paras.length ≤ 100
  nn : t.notes.length ≤ 100
  par : ∀ p ∈ t.paras, OKR p
  not : ∀ p ∈ t.notes, OKR p
theorem okt_of {t : Tx} (h : chkT t = 0) : OKT t := by
  unfold chkT at h
  by_cases hs : sizeM t = 0
  · rw [if_neg (fun c => c hs)] at h
    obtain ⟨s1, s2, s3⟩ := size_ok hs
    obtain ⟨k1, nx, _, k2⟩ := chkA_ok (by omega) h
    obtain ⟨k3, _⟩ := chkB_ok k2
    refine ⟨s1, s2, fun p hp => ⟨(s3 p (List.mem_append_left _ hp)).2, fun w hw => ?_, fun w hw => ?_⟩, fun p hp => ⟨(s3 p (List.mem_append_right _ hp)).2, fun w hw => ?_, fun w hw => ?_⟩⟩
    · obtain ⟨nx, q1, q2⟩ := k1 p hp w hw
      have := (wErr_ok q2).1
      omega
    · obtain ⟨nx, q1, q2⟩ := k1 p hp w hw
      have := (wErr_ok q2).2.2.2
      omega
    · have := (wErr_ok (k3 p hp w hw)).1
      omega
    · have := (wErr_ok (k3 p hp w hw)).2.2.2
      omega
  · rw [if_pos hs] at h
    exact absurd h hs
theorem lnGo_len (ws : List Wd) (first m : Int) : ∀ (l : List Int) (a : Int), (lnGo ws first m a l).length = l.length
  | [], a => rfl
  | e :: r, a => by simp [lnGo, lnGo_len ws first m r e]
theorem lnsM_len {ws : List Wd} {first m : Int} (h : OKR ws) (hm : 500 ≤ m) : (lnsM ws first m).length ≤ ws.length := by
  unfold lnsM
  rw [lnGo_len]
  have := ordEn_len (ends_ord hm h.ok)
  rw [widsW_len] at this
  omega
def bodyT (t : Tx) (m : Int) : List Line := bodyGo m 0 t.paras
def notesT (t : Tx) (m : Int) : List (List Line) := notesGo m (wordsN t.paras) t.notes
def errT (t : Tx) (m : Int) : Int := if chkT t ≠ 0 then chkT t else if m < 500 ∨ 2000 < m then 5 else 0
theorem wordsN_take {l : List (List Wd)} {i : Nat} (h : i < l.length) : wordsN (l.take (i + 1)) = wordsN (l.take i) + l[i].length := by
  unfold wordsN
  rw [List.take_succ_eq_append_getElem h, List.map_append, List.sum_append]; simp
theorem wordsN_le : ∀ {l : List (List Wd)}, (∀ p ∈ l, p.length ≤ 500) → wordsN l ≤ 500 * l.length
  | [], _ => by simp [wordsN]
  | p :: r, h => by
    have h1 := h p (by simp)
    have h2 := wordsN_le (l := r) (fun q hq => h q (by simp [hq]))
    have e : wordsN (p :: r) = p.length + wordsN r := by simp [wordsN]
    rw [e, List.length_cons]; omega
theorem wordsN_takeLe {l : List (List Wd)} (h : ∀ p ∈ l, p.length ≤ 500) (i : Nat) : wordsN (l.take i) ≤ 500 * l.length := by
  have h1 := wordsN_le (l := l.take i) (fun p hp => h p (List.mem_of_mem_take hp))
  have h2 : (l.take i).length ≤ l.length := by rw [List.length_take]; omega
  omega
set_option maxHeartbeats 8000000 in
theorem linesT_f {t : Tx} {m : Int} (h48 : (t.paras.length + t.notes.length) * 24 ≤ 140737488351232) :
    Fn Tryd.prog 11 [pV eText t, pI m] (pT3 (pSl eLine (if errT t m = 0 then bodyT t m else [])) (pSl (eSl eLine) (if errT t m = 0 then notesT t m else [])) (pI (errT t m))) := by
  refine fn_of ent11 Tryd.func11 rfl Tryd.ntmps11 rfl fun M0 w0 => ?_
  by_cases hc : chkT t = 0
  rotate_left
  · have e : errT t m = chkT t := by unfold errT; rw [if_pos hc]
    rw [e, if_neg hc, if_neg hc]
    (repeat (first | refine c_seq ?_ | refine c_reg ?_ | refine c_rnil ?_ | refine c_true ?_ | refine c_op (by first | exact t_call (h := (check25_f h48)) | exact t_move | exact t_assign | exact t_neqT | exact t_load | exact t_boxP | fail) ?_ | fail))
    refine c_ret3 Tryd.func11 rfl ?_
    exact fun h1 h2 h3 => ⟨_, _, _, rfl, by rw [show _ = _ from h1]; exact SlOf.nil _ _ _, by rw [show _ = _ from h2]; exact SlOf.nil _ _ _, h3⟩
  by_cases hm : m < 500 ∨ 2000 < m
  · have e : errT t m = 5 := by unfold errT; rw [if_neg (fun c => c hc), if_pos hm]
    rw [e, if_neg (by decide), if_neg (by decide)]
    by_cases hm1 : m < 500
    · (repeat (first | refine c_seq ?_ | refine c_reg ?_ | refine c_rnil ?_ | refine c_skip ?_ | refine c_true ?_ | refine c_false ?_ | refine c_no ?_ | refine c_op (by first | exact t_call (h := (check25_f h48)) | exact t_move | exact t_assign | exact t_pickT | exact t_lssT | exact t_neqF | exact t_load | exact t_boxP | fail) ?_ | fail))
      refine c_ret3 Tryd.func11 rfl ?_
      exact fun h1 h2 h3 => ⟨_, _, _, rfl, by rw [show _ = _ from h1]; exact SlOf.nil _ _ _, by rw [show _ = _ from h2]; exact SlOf.nil _ _ _, h3⟩
    · have hm2 : 2000 < m := by omega
      (repeat (first | refine c_seq ?_ | refine c_reg ?_ | refine c_rnil ?_ | refine c_skip ?_ | refine c_true ?_ | refine c_false ?_ | refine c_yes ?_ | refine c_op (by first | exact t_call (h := (check25_f h48)) | exact t_move | exact t_assign | exact t_pickF | exact t_lssF | exact t_gtrT | exact t_neqF | exact t_load | exact t_boxP | fail) ?_ | fail))
      refine c_ret3 Tryd.func11 rfl ?_
      exact fun h1 h2 h3 => ⟨_, _, _, rfl, by rw [show _ = _ from h1]; exact SlOf.nil _ _ _, by rw [show _ = _ from h2]; exact SlOf.nil _ _ _, h3⟩
  have e : errT t m = 0 := by unfold errT; rw [if_neg (fun c => c hc), if_neg hm]
  rw [e, if_pos rfl, if_pos rfl]
  have hok := okt_of hc
  have hm' : 500 ≤ m ∧ m ≤ 2000 := by omega
  have hnp := hok.np
  have hnn := hok.nn
  have hpl : ∀ p ∈ t.paras, p.length ≤ 500 := fun p hp => (hok.par p hp).len
  have hnl : ∀ p ∈ t.notes, p.length ≤ 500 := fun p hp => (hok.not p hp).len
  have hwp := wordsN_le hpl
  (repeat (first | refine c_seq ?_ | refine c_reg ?_ | refine c_rnil ?_ | refine c_block ?_ | refine c_skip ?_ | refine c_false ?_ | refine c_yes ?_ | refine c_op (by first | exact t_call (h := (check25_f h48)) | exact t_move | exact t_assign | exact t_pickF | exact t_lssF | exact t_gtrF | exact t_neqF | exact t_len | exact t_load | exact t_fa | exact t_boxP | fail) ?_ | fail))
  refine c_loop (fun x : Nat × List Line => [(1, .pu (pI m)), (2, .pu (pPtr eText t)), (8, .gr eLine x.2 1 42), (9, .pu (pv (.slice none 0 0))), (10, .pu (pI (wordsN (t.paras.take x.1)))), (27, .pu (pSl (eSl eWord) t.paras)), (28, .pu (pI t.paras.length)), (29, .pu (pI x.1))])
    (fun x => x.1 ≤ t.paras.length ∧ x.2.length ≤ wordsN (t.paras.take x.1) ∧ x.2 ++ bodyGo m (wordsN (t.paras.take x.1)) (t.paras.drop x.1) = bodyT t m) (fun x => t.paras.length - x.1) (0, []) ⟨by simp, by simp, rfl⟩ (by repeat (first | exact trivial | refine ⟨has_rfl rfl, ?_⟩ | refine ⟨has_nil rfl, ?_⟩ | fail)) ?_
  rintro ⟨i, L⟩ ⟨hi, hLl, hL⟩ ih
  dsimp only at hi hLl hL ih ⊢
  have hti := wordsN_takeLe hpl i
  by_cases hlt : i < t.paras.length
  · rw [List.drop_eq_getElem_cons hlt] at hL
    simp only [bodyGo] at hL
    have hokp := hok.par _ (List.getElem_mem hlt)
    have hpll := hokp.len
    have hts := wordsN_take hlt
    have hll := lnsM_len (first := (wordsN (t.paras.take i) : Nat)) hokp hm'.1
    (repeat (first | refine c_seq ?_ | refine c_reg ?_ | refine c_rnil ?_ | refine c_block ?_ | refine c_inBlock ?_ | refine c_skip ?_ | refine c_true ?_ | refine c_op (by first | exact t_call (h := (setL_f hm' (by omega) hokp)) | exact t_moveG | exact t_move | exact t_assignG | exact t_assign | exact t_add | exact t_lssT | exact t_len | exact t_idxN | exact t_load | fail) ?_ | refine c_opW t_app ?_ | fail))
    refine (ih (i + 1, L ++ lnsM t.paras[i] (wordsN (t.paras.take i) : Nat) m) ⟨by dsimp only; omega, by dsimp only; rw [List.length_append]; omega, ?_⟩ (by dsimp only; omega)).sub (by repeat (first | exact trivial | refine ⟨has_rfl rfl, ?_⟩ | refine ⟨has_int rfl (by first | (simp only [List.length_append, List.length_singleton]; omega)), ?_⟩))
    dsimp only
    rw [← hL, hts, List.append_assoc]
    rfl
  · have hd : t.paras.drop i = [] := List.drop_of_length_le (by omega)
    rw [hd] at hL
    simp only [bodyGo, List.append_nil] at hL
    have hti2 : t.paras.take i = t.paras := List.take_of_length_le (by omega)
    rw [hti2] at hLl ⊢
    (repeat (first | refine c_seq ?_ | refine c_reg ?_ | refine c_rnil ?_ | refine c_block ?_ | refine c_exit ?_ | refine c_false ?_ | refine c_op (by first | exact t_move | exact t_lssF | exact t_len | exact t_load | exact t_fa | fail) ?_ | fail))
    refine c_loop (fun x : Nat × List (List Line) => [(1, .pu (pI m)), (2, .pu (pPtr eText t)), (8, .gr eLine L 1 42), (9, .gr (eSl eLine) x.2 2 33), (10, .pu (pI (wordsN t.paras + wordsN (t.notes.take x.1) : Nat))), (45, .pu (pSl (eSl eWord) t.notes)), (46, .pu (pI t.notes.length)), (47, .pu (pI x.1))])
      (fun x => x.1 ≤ t.notes.length ∧ x.2.length = x.1 ∧ x.2 ++ notesGo m (wordsN t.paras + wordsN (t.notes.take x.1) : Nat) (t.notes.drop x.1) = notesT t m) (fun x => t.notes.length - x.1) (0, []) ⟨by simp, rfl, rfl⟩ (by repeat (first | exact trivial | refine ⟨has_rfl rfl, ?_⟩ | refine ⟨has_nil rfl, ?_⟩ | fail)) ?_
    rintro ⟨j, Ns⟩ ⟨hj, hNl, hN⟩ ih2
    dsimp only at hj hNl hN ih2 ⊢
    have htj := wordsN_takeLe hnl j
    by_cases hlj : j < t.notes.length
    · rw [List.drop_eq_getElem_cons hlj] at hN
      simp only [notesGo] at hN
      have hokp := hok.not _ (List.getElem_mem hlj)
      have hpll := hokp.len
      have hts := wordsN_take hlj
      (repeat (first | refine c_seq ?_ | refine c_reg ?_ | refine c_rnil ?_ | refine c_block ?_ | refine c_inBlock ?_ | refine c_skip ?_ | refine c_true ?_ | refine c_op (by first | exact t_call (h := (setL_f hm' (by omega) hokp)) | exact t_moveG | exact t_move | exact t_assignG | exact t_assign | exact t_add | exact t_lssT | exact t_len | exact t_idxN | exact t_load | exact t_bs | fail) ?_ | refine c_opW t_app ?_ | fail))
      refine (ih2 (j + 1, Ns ++ [lnsM t.notes[j] (wordsN t.paras + wordsN (t.notes.take j) : Nat) m]) ⟨by dsimp only; omega, by dsimp only; rw [List.length_append, List.length_singleton]; omega, ?_⟩ (by dsimp only; omega)).sub (by repeat (first | exact trivial | refine ⟨has_rfl rfl, ?_⟩ | refine ⟨has_int rfl (by first | (simp only [List.length_append, List.length_singleton]; omega)), ?_⟩))
      dsimp only
      rw [← hN, hts, List.append_assoc, ← Nat.add_assoc]
      rfl
    · have hd : t.notes.drop j = [] := List.drop_of_length_le (by omega)
      rw [hd] at hN
      simp only [notesGo, List.append_nil] at hN
      rw [← hL, ← hN]
      (repeat (first | refine c_seq ?_ | refine c_reg ?_ | refine c_rnil ?_ | refine c_exit ?_ | refine c_false ?_ | refine c_op (by first | exact t_moveG | exact t_assignG | exact t_assign | exact t_lssF | fail) ?_ | fail))
      refine c_ret3 Tryd.func11 rfl ?_
      exact fun h1 h2 h3 => ⟨_, _, _, rfl, h1, h2, h3⟩
end Go.Proofs.YtedlipgopicijaaDoor
end

section
namespace Go.Proofs.YtedlipgopicijaaDoor
open Go Go.RowKit
end Go.Proofs.YtedlipgopicijaaDoor
end

section
namespace Go.Proofs.YtedlipgopicijaaDoor
open Go Go.RowKit
def nts (l : List Wd) : List Int := (l.filter fun w => decide (w.note ≠ 0)).map fun w => w.note
def seqI (a : Int) : Nat → List Int
  | 0 => []
  | c + 1 => a :: seqI (a + 1) c
theorem seqI_snoc : ∀ (c : Nat) (a : Int), seqI a (c + 1) = seqI a c ++ [a + c]
  | 0, a => by simp [seqI]
  | c + 1, a => by
    rw [seqI, seqI_snoc c (a + 1)]
    simp only [seqI, List.cons_append]
    congr 3
    omega
theorem nts_append (a b : List Wd) : nts (a ++ b) = nts a ++ nts b := by simp [nts]
theorem nts_none {l : List Wd} (h : ∀ w ∈ l, w.note = 0) : nts l = [] := by
  unfold nts
  rw [List.filter_eq_nil_iff.2 (fun w hw => by simp [h w hw])]
  rfl
structure VT (t : Tx) : Prop where
  np : 1 ≤ t.paras.length ∧ t.paras.length ≤ 4
  nn : t.notes.length ≤ 4
  len : ∀ p ∈ t.paras ++ t.notes, 1 ≤ p.length ∧ p.length ≤ 40
  par : ∀ p ∈ t.paras, ∀ w ∈ p, OKWd w
  not : ∀ p ∈ t.notes, ∀ w ∈ p, OKWd w ∧ w.note = 0
  seq : nts t.paras.flatten = seqI 1 t.notes.length
theorem chkP_append {n : Int} {K : Int → Int} : ∀ (a b : List Wd) (next : Int), chkP n K (a ++ b) next = chkP n (chkP n K b) a next
  | [], b, next => rfl
  | w :: a, b, next => by simp only [List.cons_append, chkP, chkP_append a b]
theorem chkA_flat {n : Int} {K : Int → Int} : ∀ (ps : List (List Wd)) (next : Int), chkA n K ps next = chkP n K ps.flatten next
  | [], next => rfl
  | p :: r, next => by
    rw [chkA, List.flatten_cons, chkP_append]
    congr 1
    funext x
    exact chkA_flat r x
theorem wErr_okw {w : Wd} {next n : Int} (h : OKWd w) (h2 : w.note = 0 ∨ (w.note = next ∧ next ≤ n)) : wErr w next n = 0 := by
  unfold wErr
  rw [if_neg (fun c => c.elim (fun c => c h.s) (fun c => h.key.elim c.1 c.2)), if_neg (fun c => h.table.elim c.1 c.2), if_neg]
  rintro ⟨c1, c2⟩
  rcases h2 with h2 | ⟨h2, h3⟩
  · exact c1 h2
  · rcases c2 with c2 | c2
    · exact c2 h2
    · omega
theorem chkP_seq {n : Int} {K : Int → Int} : ∀ {l : List Wd} {next : Int} {c : Nat}, (∀ w ∈ l, OKWd w) → nts l = seqI next c → next + c ≤ n + 1 → chkP n K l next = K (next + c)
  | [], next, c, _, h, _ => by
    cases c with
    | zero => simp [chkP]
    | succ c => simp [nts, seqI] at h
  | w :: r, next, c, hw, h, hc => by
    have hw0 := hw w (by simp)
    have hr : ∀ x ∈ r, OKWd x := fun x hx => hw x (by simp [hx])
    by_cases h0 : w.note = 0
    · have hn : nts (w :: r) = nts r := by simp [nts, h0]
      rw [hn] at h
      simp only [chkP]
      rw [if_neg (fun q => q (wErr_okw hw0 (.inl h0))), if_neg (fun q => q h0)]
      exact chkP_seq hr h hc
    · have hn : nts (w :: r) = w.note :: nts r := by simp [nts, h0]
      rw [hn] at h
      cases c with
      | zero => simp [seqI] at h
      | succ c =>
        simp only [seqI, List.cons.injEq] at h
        simp only [chkP]
        rw [if_neg (fun q => q (wErr_okw hw0 (.inr ⟨h.1, by omega⟩))), if_pos h0, chkP_seq hr h.2 (by omega)]
        congr 1
        omega
theorem chkQ_zero {K : Int} : ∀ {l : List Wd}, (∀ w ∈ l, OKWd w ∧ w.note = 0) → chkQ K l = K
  | [], _ => rfl
  | w :: r, h => by
    obtain ⟨h1, h2⟩ := h w (by simp)
    simp only [chkQ]
    rw [if_neg (fun q => q (wErr_okw h1 (.inl h2)))]
    exact chkQ_zero (fun x hx => h x (by simp [hx]))
theorem chkB_zero {K : Int} : ∀ {l : List (List Wd)}, (∀ p ∈ l, ∀ w ∈ p, OKWd w ∧ w.note = 0) → chkB K l = K
  | [], _ => rfl
  | p :: r, h => by
    simp only [chkB]
    rw [chkQ_zero (h p (by simp))]
    exact chkB_zero (fun q hq => h q (by simp [hq]))
theorem VT.chk {t : Tx} (h : VT t) : chkT t = 0 := by
  have hs : sizeM t = 0 := by
    unfold sizeM
    have h1 := h.np
    have h2 := h.nn
    rw [if_neg (by omega), if_neg, if_neg]
    · unfold noneP
      simp only [List.any_eq_true, not_exists, decide_eq_true_eq, not_and]
      intro p hp
      have := h.len p hp
      omega
    · unfold longP
      simp only [List.any_eq_true, not_exists, decide_eq_true_eq, not_and]
      intro p hp
      have := h.len p hp
      omega
  unfold chkT
  rw [if_neg (fun q => q hs), chkA_flat, chkP_seq (c := t.notes.length) (fun w hw => by
    obtain ⟨p, hp, hw⟩ := List.mem_flatten.1 hw
    exact h.par p hp w hw) h.seq (by omega), chkB_zero h.not]
  unfold lastK
  rw [if_neg]
  omega
theorem fromGo_ge : ∀ (l : List Wd) (i f : Nat), f ≤ i → (∀ j (hj : j < l.length), fromGo l i f ≤ i + j → l[j].note = 0) ∧ (f ≤ fromGo l i f)
  | [], i, f, h => ⟨fun j hj => by simp at hj, by simp [fromGo]⟩
  | w :: r, i, f, h => by
    simp only [fromGo]
    obtain ⟨k1, k2⟩ := fromGo_ge r (i + 1) (if w.note ≠ 0 then i + 1 else f) (by split <;> omega)
    refine ⟨fun j hj hle => ?_, ?_⟩
    · cases j with
      | zero =>
        simp only [List.getElem_cons_zero]
        by_cases h0 : w.note = 0
        · exact h0
        · rw [if_pos h0] at k2 hle
          omega
      | succ j =>
        simp only [List.getElem_cons_succ]
        exact k1 j (by simpa using hj) (by omega)
    · by_cases h0 : w.note = 0
      · rw [if_neg (fun q => q h0)] at k2 ⊢
        exact k2
      · rw [if_pos h0] at k2 ⊢
        omega
theorem from_note {ws : List Wd} {j : Nat} (hj : j < ws.length) (h : fromM ws ≤ j) : ws[j].note = 0 := (fromGo_ge ws 0 0 (Nat.le_refl _)).1 j hj (by unfold fromM at h; omega)
theorem findK_spec {ps : List (List Wd)} : ∀ {f k j : Nat}, findK ps k f = some j → k + f ≤ ps.length → j < ps.length ∧ refOk ((ps[j]?).getD []) (lastM ps j) = true
  | 0, k, j, h, _ => by cases h
  | f + 1, k, j, h, hl => by
    simp only [findK] at h
    split at h
    · cases h
      exact ⟨by omega, by assumption⟩
    · exact findK_spec h (by omega)
theorem part_vt {n most : Int} (hn : 0 ≤ n) (hm : 1 ≤ most ∧ most ≤ 40) : 1 ≤ (partM n most).length ∧ (partM n most).length ≤ 40 ∧ ∀ w ∈ partM n most, OKWd w ∧ w.note = 0 := by
  have h1 := tmod_rng' (k := most) hn (by omega)
  unfold partM
  rw [partGo_len]
  exact ⟨by omega, by omega, partGo_ok _ _⟩
theorem noteStep_vt {t : Tx} (h : VT t) (hn : t.notes.length ≤ 3) {n : Int} (h0 : 0 ≤ n) : VT (noteStep t n) ∧ (noteStep t n).notes.length ≤ t.notes.length + 1 := by
  unfold noteStep
  split
  · exact ⟨h, by omega⟩
  · rename_i k hk
    obtain ⟨hkl, hro⟩ := findK_spec hk (by omega)
    obtain ⟨p1, p2, p3⟩ := part_vt h0 (most := 12) (by omega)
    have hget : (t.paras[k]?).getD [] = t.paras[k] := by rw [List.getElem?_eq_getElem hkl]; rfl
    rw [hget] at hro ⊢
    have hro2 : lastM t.paras k = false ∧ fromM t.paras[k] < t.paras[k].length := by
      unfold refOk at hro
      simpa using hro
    obtain ⟨hl, hf⟩ := hro2
    obtain ⟨a1, a2⟩ := refAt_lt h0 hf
    obtain ⟨q, hq⟩ : ∃ q, q = refAt t.paras[k] n := ⟨_, rfl⟩
    rw [← hq] at a1 a2
    have hmem : t.paras[k] ∈ t.paras := List.getElem_mem hkl
    have hw := h.par _ hmem _ (List.getElem_mem a2)
    obtain ⟨w', hw'⟩ : ∃ w', w' = ({ t.paras[k][q] with note := (t.notes.length : Int) + 1 } : Wd) := ⟨_, rfl⟩
    have hput : putRef t.paras[k] n ((t.notes.length : Int) + 1) = t.paras[k].set q w' := by
      unfold putRef
      rw [← hq, List.getElem?_eq_getElem a2, hw']
      rfl
    rw [hput]
    have hok' : OKWd w' := by rw [hw']; exact ⟨hw.s, hw.key, hw.table⟩
    have hset : ∀ p ∈ t.paras.set k (t.paras[k].set q w'), (p.length = t.paras[k].length ∧ ∀ w ∈ p, OKWd w) ∨ p ∈ t.paras := fun p hp => by
      rcases List.mem_or_eq_of_mem_set hp with hp | rfl
      · exact .inr hp
      · refine .inl ⟨by simp, fun w hw => ?_⟩
        rcases List.mem_or_eq_of_mem_set hw with hw | rfl
        · exact h.par _ hmem w hw
        · exact hok'
    have hlen0 := h.len _ (List.mem_append_left _ hmem)
    refine ⟨⟨by simpa using h.np, by simp; omega, fun p hp => ?_, fun p hp => ?_, fun p hp => ?_, ?_⟩, by simp⟩
    · rcases List.mem_append.1 hp with hp | hp
      · rcases hset p hp with ⟨e, _⟩ | hp
        · omega
        · exact h.len p (List.mem_append_left _ hp)
      · rcases List.mem_append.1 hp with hp | hp
        · exact h.len p (List.mem_append_right _ hp)
        · rw [List.mem_singleton.1 hp]; exact ⟨p1, p2⟩
    · rcases hset p hp with ⟨_, e⟩ | hp
      · exact e
      · exact h.par p hp
    · rcases List.mem_append.1 hp with hp | hp
      · exact h.not p hp
      · rw [List.mem_singleton.1 hp]; exact p3
    · have hseq := h.seq
      have e1 : t.paras = t.paras.take k ++ t.paras[k] :: t.paras.drop (k + 1) := by rw [← List.drop_eq_getElem_cons hkl, List.take_append_drop]
      have e2 : t.paras.set k (t.paras[k].set q w') = t.paras.take k ++ (t.paras[k].set q w') :: t.paras.drop (k + 1) := List.set_eq_take_append_cons_drop.trans (by rw [if_pos hkl])
      have hd : nts (t.paras.drop (k + 1)).flatten = [] := nts_none fun w hw => by
        obtain ⟨p, hp, hw⟩ := List.mem_flatten.1 hw
        unfold lastM at hl
        rw [List.any_eq_false] at hl
        have := hl p hp
        rw [Bool.not_eq_true, List.any_eq_false] at this
        have := this w hw
        simpa using this
      have e3 : t.paras[k] = t.paras[k].take q ++ t.paras[k][q] :: t.paras[k].drop (q + 1) := by rw [← List.drop_eq_getElem_cons a2, List.take_append_drop]
      have e4 : t.paras[k].set q w' = t.paras[k].take q ++ w' :: t.paras[k].drop (q + 1) := List.set_eq_take_append_cons_drop.trans (by rw [if_pos a2])
      have hd2 : nts (t.paras[k].drop (q + 1)) = [] := nts_none fun w hw => by
        obtain ⟨j, hj, rfl⟩ := List.mem_iff_getElem.1 hw
        rw [List.getElem_drop]
        rw [List.length_drop] at hj
        exact from_note (by omega) (by omega)
      have hn1 : nts [t.paras[k][q]] = [] := nts_none fun w hw => by rw [List.mem_singleton.1 hw]; exact from_note a2 a1
      have hn2 : nts [w'] = [(t.notes.length : Int) + 1] := by
        rw [hw']
        unfold nts
        have : ¬ ((t.notes.length : Int) + 1 = 0) := by omega
        simp [this]
      have f1 : nts t.paras.flatten = nts (t.paras.take k).flatten ++ nts (t.paras[k].take q) := by
        conv => lhs; rw [e1]
        rw [List.flatten_append, List.flatten_cons, nts_append, nts_append, hd, List.append_nil]
        conv => lhs; rw [e3]
        rw [nts_append, show t.paras[k][q] :: t.paras[k].drop (q + 1) = [t.paras[k][q]] ++ t.paras[k].drop (q + 1) from rfl, nts_append, hn1, hd2]
        simp
      have f2 : nts (t.paras.set k (t.paras[k].set q w')).flatten = nts (t.paras.take k).flatten ++ nts (t.paras[k].take q) ++ [(t.notes.length : Int) + 1] := by
        rw [e2, List.flatten_append, List.flatten_cons, nts_append, nts_append, hd, List.append_nil, e4, nts_append, show w' :: t.paras[k].drop (q + 1) = [w'] ++ t.paras[k].drop (q + 1) from rfl, nts_append, hn2, hd2]
        simp
      rw [f2, ← f1, hseq, List.length_append, List.length_singleton, seqI_snoc]
      congr 2
      omega
theorem textN_vt (l : List Int) : ∀ c, c ≤ 3 → VT (textN l c) ∧ (textN l c).notes.length ≤ c
  | 0, _ => by
    have hc0 := pickM_bd l 0 4 (by omega)
    have hpar : ∀ p ∈ paras0 l, 1 ≤ p.length ∧ p.length ≤ 40 ∧ ∀ w ∈ p, OKWd w ∧ w.note = 0 := fun p hp => by
      obtain ⟨j, _, rfl⟩ := List.mem_map.1 hp
      exact part_vt (pickM_bd l (2 + j) 1000000 (by omega)).1 (by omega)
    have hlen : (paras0 l).length = (pickM l 0 4).toNat + 1 := by simp [paras0]
    refine ⟨⟨?_, Nat.zero_le _, fun p hp => ?_, fun p hp w hw => ((hpar p hp).2.2 w hw).1, (fun p hp => by cases hp), ?_⟩, Nat.le_refl _⟩
    · show 1 ≤ (paras0 l).length ∧ (paras0 l).length ≤ 4
      omega
    · have hp' : p ∈ paras0 l := by
        have : p ∈ paras0 l ++ [] := hp
        simpa using this
      have := hpar p hp'
      omega
    · exact nts_none fun w hw => by
        obtain ⟨p, hp, hw⟩ := List.mem_flatten.1 hw
        exact ((hpar p hp).2.2 w hw).2
  | c + 1, hc => by
    obtain ⟨h1, h2⟩ := textN_vt l c (by omega)
    rw [textN_succ]
    obtain ⟨h3, h4⟩ := noteStep_vt h1 (by omega) (pickM_bd l (6 + c) 1000000 (by omega)).1
    exact ⟨h3, by omega⟩
theorem textM_vt (l : List Int) : VT (textM l) := by
  have hc1 := pickM_bd l 1 4 (by omega)
  exact (textN_vt l _ (by omega)).1
end Go.Proofs.YtedlipgopicijaaDoor
end

section
namespace Go.Proofs.YtedlipgopicijaaDoor
def refs (body : List Line) : List Int := body.flatMap (·.notes)
end Go.Proofs.YtedlipgopicijaaDoor
end

section
namespace Go.Proofs.YtedlipgopicijaaDoor
open Go Go.RowKit
end Go.Proofs.YtedlipgopicijaaDoor
end

section
namespace Go.Proofs.YtedlipgopicijaaDoor
open Go Go.RowKit
end Go.Proofs.YtedlipgopicijaaDoor
end

section
namespace Go.Proofs.YtedlipgopicijaaDoor
open Go Go.RowKit
abbrev ptr (b : Nat) : Value := .pointer (some ⟨b, 0, none⟩)
structure Vars (M : Mut) (w : World) (bb bh bq bl bs br : Nat) (vb vq : Value) (h n s : Int) : Prop where
  body : Box M w bb 3 [vb] 33
  height : Box M w bh 5 [.int .i64 h] 3
  queue : Box M w bq 10 [vq] 33
  lines : Box M w bl 11 [.int .i64 n] 3
  shown : Box M w bs 12 [.int .i64 s] 3
  room : Box M w br 13 [.func (.func 43) #[] #[ptr bh, ptr bl, ptr bs]] 76
end Go.Proofs.YtedlipgopicijaaDoor
end

section
namespace Go.Proofs.YtedlipgopicijaaDoor
open Go Go.RowKit
structure PgJ (M0 : Mut) (w0 : World) (h : Int) (notes : List (List Line)) (vn : Value) (bb bh bq : Nat) (M : Mut) (w : World) (body q : List Line) (ps : List Pg) (vb vq vp : Value) : Prop where
  rn : Rn M0 w0 M w
  bb : Box M w bb 3 [vb] 33
  bh : Box M w bh 5 [.int .i64 h] 3
  bq : Box M w bq 10 [vq] 33
  sb : SlOf eLine M w vb body
  sq : SlOf eLine M w vq q
  gq : Grow w0.heap.size M w vq q.length 4 4 42
  sp : SlOf ePg M w vp ps
  gp : Grow w0.heap.size M w vp ps.length 6 9 57
  sn : SlOf (eSl eLine) M w vn notes
  hr : ∀ i ∈ refs body, 0 ≤ i ∧ i < notes.length
structure FS where
  n : Int
  s : Int
  q : List Line
  vq : Value
  M : Mut
structure LS where
  f : Nat
  body : List Line
  q : List Line
  ps : List Pg
  vb : Value
  vq : Value
  vp : Value
  M : Mut
end Go.Proofs.YtedlipgopicijaaDoor
end

section
namespace Go.Proofs.YtedlipgopicijaaDoor
open Go Go.RowKit
theorem pg_len {M : Mut} {w : World} {v : Value} {l : List Line} (h : SlOf eLine M w v l) : (l.length : Int) ≤ 2199023255552 := by
  have := h.bytes
  have e : eLine.by_ = 64 := rfl
  rw [e] at this
  omega
end Go.Proofs.YtedlipgopicijaaDoor
end

section
namespace Go.Proofs.YtedlipgopicijaaDoor
open Go Go.RowKit
end Go.Proofs.YtedlipgopicijaaDoor
end

section
namespace Go.Proofs.YtedlipgopicijaaDoor
open Go Go.RowKit
end Go.Proofs.YtedlipgopicijaaDoor
end

section
namespace Go.Proofs.YtedlipgopicijaaDoor
open Go Go.RowKit
structure SlBg (M : Mut) (w : World) (v : Value) (l : List Int) : Prop where
  ex : ∃ a cap, v = .slice a l.length cap ∧ l.length ≤ cap ∧ cap ≤ maxLen ∧ (a = none → cap = 0) ∧ ∀ ad, a = some ad → ∀ (i : Nat) (hi : i < l.length), Elem eI M w (ad.add (i * eI.sz)) l[i]
section
variable {P : Program} {N : Nat} {fr : Fr} {w : World} {Ψ : Value → World → Prop} {d : Option Tmp} {ty : TypeId} {pos : String} {aft : Array Edge} {g : Option (Nat × Bool)}
end
structure OKB (body : List Line) (notes : List (List Line)) : Prop where
  lb : body.length ≤ 60
  ln : notes.length ≤ 2 * body.length
  nn : ∀ x ∈ notes, x ≠ [] ∧ x.length ≤ 9
  rf : refs body = (List.range notes.length).map fun (i : Nat) => (i : Int)
structure LJ (M0 : Mut) (w0 : World) (v : Value) (l : List Int) (M : Mut) (w : World) (body : List Line) (notes : List (List Line)) (vb vn : Value) : Prop where
  rn : Rn M0 w0 M w
  sl : SlBg M w v l
  sb : SlOf eLine M w vb body
  gb : Grow w0.heap.size M w vb body.length 4 1 42
  sn : SlOf (eSl eLine) M w vn notes
  gn : Grow w0.heap.size M w vn notes.length 1 2 33
structure XJ (B : Nat) (M : Mut) (w : World) (bx : Nat) (n : Int) (vx : Value) (ns : List Int) : Prop where
  box : Box M w bx 3 [.int .i64 n, .int .i64 (n + 1), .slice none 0 0, vx] 42
  sx : SlOf eI M w vx ns
  gx : Grow B M w vx ns.length 1 4 3
structure OS where
  i : Nat
  body : List Line
  notes : List (List Line)
  vb : Value
  vn : Value
  M : Mut
structure KS where
  k : Nat
  ns : List Int
  notes : List (List Line)
  vx : Value
  vn : Value
  M : Mut
structure NS where
  note : List Line
  vo : Value
  M : Mut
end Go.Proofs.YtedlipgopicijaaDoor
end

section
namespace Go.Proofs.YtedlipgopicijaaDoor
open Go Go.RowKit
end Go.Proofs.YtedlipgopicijaaDoor
end

section
namespace Go.Proofs.YtedlipgopicijaaDoor
end Go.Proofs.YtedlipgopicijaaDoor
end

section
namespace Go.Proofs.YtedlipgopicijaaDoor
open Go Go.RowKit
end Go.Proofs.YtedlipgopicijaaDoor
end

section
namespace Go.Proofs.YtedlipgopicijaaDoor
end Go.Proofs.YtedlipgopicijaaDoor
end

section
namespace Go.Proofs.YtedlipgopicijaaDoor
open Go Go.RowKit
end Go.Proofs.YtedlipgopicijaaDoor
end

section
namespace Go.Proofs.YtedlipgopicijaaDoor
end Go.Proofs.YtedlipgopicijaaDoor
end

section
namespace Go.Proofs.YtedlipgopicijaaDoor
open Go Go.RowKit
section
variable {P : Program} {N : Nat} {fr : Fr} {w : World} {Ψ : Value → World → Prop} {d : Option Tmp} {ty : TypeId} {pos : String} {aft : Array Edge} {g : Option (Nat × Bool)}
end
end Go.Proofs.YtedlipgopicijaaDoor
end

section
namespace Go.Proofs.YtedlipgopicijaaDoor
end Go.Proofs.YtedlipgopicijaaDoor
end

section
namespace Go.Proofs.YtedlipgopicijaaDoor
end Go.Proofs.YtedlipgopicijaaDoor
end

section
namespace Go.Proofs.YtedlipgopicijaaDoor
open Go Go.RowKit
section
variable {N : Nat} {fr : Fr} {w : World} {Ψ : Value → World → Prop} {d : Option Tmp} {ty : TypeId} {pos : String} {aft : Array Edge} {g : Option (Nat × Bool)}
end
end Go.Proofs.YtedlipgopicijaaDoor
end

section
namespace Go.Proofs.YtedlipgopicijaaDoor
open Go Go.RowKit
end Go.Proofs.YtedlipgopicijaaDoor
end

section
namespace Go.Proofs.YtedlipgopicijaaDoor
open Go Go.RowKit
end Go.Proofs.YtedlipgopicijaaDoor
end

section
namespace Go.Proofs.YtedlipgopicijaaDoor
open Go Go.RowKit
end Go.Proofs.YtedlipgopicijaaDoor
end

section
namespace Go.Proofs.YtedlipgopicijaaDoor
end Go.Proofs.YtedlipgopicijaaDoor
end

section
namespace Go.Proofs.YtedlipgopicijaaDoor
open Go Go.RowKit
section
variable {P : Program} {N : Nat} {G : TF} {d : Option Tmp} {ty : TypeId} {pos : String} {aft : Array Edge} {g : Option (Nat × Bool)}
end
instance : FOc Tryd.prog 57 3 4 := ⟨fdP3⟩
instance : FOc Tryd.prog 57 4 5 := ⟨fdP4⟩
instance : T1c Tryd.prog 33 := ⟨24, _, tdSL⟩
end Go.Proofs.YtedlipgopicijaaDoor
end

section
namespace Go.Proofs.YtedlipgopicijaaDoor
open Go Go.RowKit
theorem VT.err {t : Tx} (h : VT t) {m : Int} (hm : 500 ≤ m ∧ m ≤ 2000) : errT t m = 0 := by
  unfold errT
  rw [if_neg (fun c => c h.chk), if_neg (by omega)]
end Go.Proofs.YtedlipgopicijaaDoor
end

section
namespace Go.Proofs.YtedlipgopicijaaDoor
open Go Go.RowKit
theorem VT.h48 {t : Tx} (h : VT t) : (t.paras.length + t.notes.length) * 24 ≤ 140737488351232 := by
  have h1 := h.np
  have h2 := h.nn
  omega
theorem textV_f {l : List Int} : Fn Tryd.prog 8 [pSl eI l] (pV eText (textM l)) := text_f.fn
end Go.Proofs.YtedlipgopicijaaDoor
end

section
namespace Go.Proofs.YtedlipgopicijaaDoor
open Go Go.RowKit
set_option maxHeartbeats 1000000 in
theorem sameL_f {l : List Line} : Fn Tryd.prog 13 [pSl eLine l, pSl eLine l] (pB true) := by
  refine fn_of ent13 Tryd.func13 rfl Tryd.ntmps13 rfl fun M0 w0 => ?_
  (repeat (first | refine c_seq ?_ | refine c_reg ?_ | refine c_rnil ?_ | refine c_block ?_ | refine c_skip ?_ | refine c_false ?_ | refine c_op (by first | exact t_move | exact t_assign | exact t_neqF | exact t_len | fail) ?_ | fail))
  refine c_have 0 (fun h => pg_len h) fun hpl => ?_
  refine c_loop (fun i : Nat => [(0, .pu (pSl eLine l)), (1, .pu (pSl eLine l)), (5, .pu (pI i))])
    (fun i => i ≤ l.length) (fun i => l.length - i) 0 (by omega) (by repeat (first | exact trivial | refine ⟨has_rfl rfl, ?_⟩ | fail)) fun i hi ih => ?_
  (repeat (first | refine c_seq ?_ | refine c_reg ?_ | refine c_rnil ?_ | refine c_op (by first | exact t_move | exact t_lss | exact t_len | fail) ?_ | fail))
  refine c_if (fun hlt => ?_) fun hge => ?_
  · have hlt' : i < l.length := by omega
    (repeat (first | refine c_seq ?_ | refine c_block ?_ | refine c_skip ?_ | fail))
    refine c_draw0 mixed (by kernel_rfl) ?_
    (repeat (first | refine d_op (by first | exact t_call (h := same_v) | exact t_move | exact t_assign | exact t_idxN | exact t_load | exact t_fa | fail) ?_ | fail))
    refine d_nil (q_nil ?_ (by kernel_rfl))
    (repeat (first | refine c_seq ?_ | fail))
    refine c_draw0 mixed (by kernel_rfl) ?_
    (repeat (first | refine d_op (by first | exact t_call (h := same_v) | exact t_move | exact t_assign | exact t_idxN | exact t_load | exact t_fa | fail) ?_ | fail))
    refine d_nil (q_nil ?_ (by kernel_rfl))
    (repeat (first | refine c_seq ?_ | fail))
    refine c_draw0 mixed (by kernel_rfl) ?_
    (repeat (first | refine d_op (by first | exact t_move | exact t_pickF | exact t_neqF | exact t_idxN | exact t_load | exact t_fa | fail) ?_ | refine d_yes (by first | exact t_move | exact t_not | exact t_neqF | exact t_idxN | exact t_load | exact t_fa | fail) ?_ | fail))
    refine d_nil (q_nil ?_ (by kernel_rfl))
    (repeat (first | refine c_reg ?_ | refine c_rnil ?_ | refine c_inBlock ?_ | refine c_skip ?_ | refine c_false ?_ | refine c_op (by first | exact t_move | exact t_assign | exact t_add | fail) ?_ | fail))
    exact (ih (i + 1) (by omega) (by omega)).sub (by repeat (first | exact trivial | refine ⟨has_rfl rfl, ?_⟩ | fail))
  · (repeat (first | refine c_seq ?_ | refine c_reg ?_ | refine c_rnil ?_ | refine c_exit ?_ | refine c_op (by first | exact t_assign | fail) ?_ | fail))
    refine c_ret1 Tryd.func13 rfl ?_
    exact fun h => h
def Mut.clr (B : Nat) (W : List Nat) (M : Mut) : Mut := fun b => match M b with
  | some p => if B ≤ b ∧ p.2 ∈ W then none else some p
  | none => none
theorem clr_le {B : Nat} {W : List Nat} {M : Mut} {b : Nat} {p : Nat × Nat} (h : M.clr B W b = some p) : M b = some p := by
  unfold Mut.clr at h
  split at h
  · rename_i q hq
    split at h
    · cases h
    · rw [hq]; exact h
  · cases h
theorem clr_none {B : Nat} {W : List Nat} {M : Mut} {b k tag : Nat} (h : M b = some (k, tag)) (hB : B ≤ b) (ht : tag ∈ W) : M.clr B W b = none := by
  unfold Mut.clr
  rw [h]
  exact if_pos ⟨hB, ht⟩
theorem StW.clr (B : Nat) (W : List Nat) (M : Mut) (w : World) : StW B W M w (M.clr B W) w := by
  refine ⟨⟨fun a v c => ⟨c.1, fun p hp => c.2 p (clr_le hp)⟩⟩, fun hm b hb => ?_, fun b hb => ?_, Below.refl _ _, fun b p hp hT _ => ⟨?_, rfl⟩⟩
  · unfold Mut.clr
    rw [hm b hb]
  · unfold Mut.clr
    split
    · rename_i q hq
      rw [if_neg (by omega), hq]
    · rename_i hq
      rw [hq]
  · unfold Mut.clr
    rw [hp]
    exact if_neg (fun h => hT h.2)
structure TxR where
  ps : List Value
  ns : List Value
def eTxR : Enc TxR := ((eSl eRaw).app (eSl eRaw)).via (fun t => (t.ps, t.ns)) 48 (by decide)
theorem teTxR : TEc Tryd.prog 25 eTxR := ⟨_, rfl, tdT⟩
theorem teSRaw : TEc Tryd.prog 23 (eSl eRaw) := ⟨_, rfl, tdSSW⟩
theorem y0l : Lens eTxR 0 (eSl eRaw) TxR.ps (fun x y => { x with ps := y }) := ((Lens.id (eSl eRaw)).left _).via _ _
theorem y1l : Lens eTxR 1 (eSl eRaw) TxR.ns (fun x y => { x with ns := y }) := ((Lens.id (eSl eRaw)).right (eSl eRaw)).via _ _
theorem y0f : FDc Tryd.prog 25 0 eTxR (eSl eRaw) TxR.ps (fun x y => { x with ps := y }) := y0l.fd fdT0
theorem y1f : FDc Tryd.prog 25 1 eTxR (eSl eRaw) TxR.ns (fun x y => { x with ns := y }) := y1l.fd fdT1
section
variable {N : Nat} {G : TF} {d : Option Tmp} {ty : TypeId} {pos : String} {aft : Array Edge} {g : Option (Nat × Bool)}
theorem t_faR0 {x : Operand} {a b : List Value} (hx : topP G x = some (pPtr eTxR ⟨a, b⟩) := by rfl) : TOp Tryd.prog N ⟨d, .fieldAddr 25 x 0, ty, pos, aft, g⟩ G [] (.pu (pPtr (eSl eRaw) a)) := t_fa hx y0f
theorem t_faR1 {x : Operand} {a b : List Value} (hx : topP G x = some (pPtr eTxR ⟨a, b⟩) := by rfl) : TOp Tryd.prog N ⟨d, .fieldAddr 25 x 1, ty, pos, aft, g⟩ G [] (.pu (pPtr (eSl eRaw) b)) := t_fa hx y1f
theorem t_ldSRaw {x : Operand} {l : List Value} (hx : topP G x = some (pPtr (eSl eRaw) l) := by rfl) : TOp Tryd.prog N ⟨d, .load 23 x, ty, pos, aft, g⟩ G [] (.pu (pSl eRaw l)) := t_load hx teSRaw inferInstance
theorem t_idxRaw {x i : Operand} {rows : List RowD} {k : IntKind} {n : Nat} (hx : topP G x = some (pSl eRaw (rows.map RowD.v)) := by rfl) (hi : topP G i = some (pK k (n : Int)) := by rfl) (hn : n < rows.length := by omega) :
    TOp Tryd.prog N ⟨d, .indexAddr 23 x i, ty, pos, aft, g⟩ G [] (.pu (pPtr eRaw (rows[n]'hn).v)) := by
  have := t_idxN (P := Tryd.prog) (N := N) (t := 23) (e := 27) (d := d) (ty := ty) (pos := pos) (aft := aft) (g := g) hx hi inferInstance teRaw (by rw [List.length_map]; exact hn)
  simpa using this
theorem t_lenRow {x : Operand} {r : RowD} (hx : topP G x = some (pv r.v) := by rfl) (hn : r.ws.length ≤ 9223372036854775807 := by omega) : TOp Tryd.prog N ⟨d, .call ⟨.builtin .len, #[x], #[27]⟩, ty, pos, aft, g⟩ G [] (.pu (pI r.ws.length)) := .pure [x] (by simp [Op.operands, Call.operands]) fun hf => by
  obtain ⟨v, h0, rfl⟩ := hf.op hx (by simp)
  exact op_lenv Tryd.underlying27 h0 ⟨rfl, rfl, rng64 (by omega)⟩
theorem t_idxRow {x i : Operand} {r : RowD} {k : IntKind} {n : Nat} (hx : topP G x = some (pv r.v) := by rfl) (hi : topP G i = some (pK k (n : Int)) := by rfl) (hn : n < r.ws.length := by omega) :
    TOp Tryd.prog N ⟨d, .indexAddr 27 x i, ty, pos, aft, g⟩ G [] (.pu (pCe r.b (r.off + n * 4))) := .pure [x, i] (by simp [Op.operands]) fun hf => by
  obtain ⟨_, h0, rfl⟩ := hf.op hx (by simp)
  obtain ⟨_, h2, rfl, _⟩ := hf.op hi (by simp)
  exact op_idxRow h0 h2 (by omega) ⟨rfl, by rw [Int.toNat_natCast]; rfl⟩
theorem t_ldRowS {x : Operand} {r : RowD} {n tag : Nat} {rows : List RowD} (kr : Nat) (hr : r ∈ rows) (hn : n < r.ws.length) (hx : topP G x = some (pCe r.b (r.off + n * 4 + 0)) := by rfl) (hg : tlook G kr = some (.gh (rowsG tag rows)) := by rfl) :
    TOp Tryd.prog N ⟨d, .load 9 x, ty, pos, aft, g⟩ G [] (.pu (pS (r.ws[n]'hn).s)) := .pure [x] (by simp [Op.operands]) fun hf => by
  obtain ⟨_, h0, rfl⟩ := hf.op hx (by simp)
  obtain ⟨h1, _⟩ := hf.out kr _ hg (.inl rfl)
  have hw := (h1 r hr).at_.word hn
  exact op_ld1 tdStr h0 hw.c0 ⟨rfl, rfl, hw.s0⟩
theorem rows_set {B tag : Nat} {M : Mut} {w w' : World} {rows : List RowD} {i n : Nat} {x : Wd} (hi : i < rows.length) (h : (rowsG tag rows).p B M w undef) (h1 : RowOk B M w' tag (rows[i].put n x)) (h3 : ∀ b, b ≠ rows[i].b → w'.heap[b]? = w.heap[b]?) : (rowsG tag (rows.set i (rows[i].put n x))).p B M w' undef := by
  obtain ⟨h4, h5⟩ := h
  refine ⟨fun r hr' => ?_, ?_⟩
  · obtain ⟨j, hj, rfl⟩ := List.mem_iff_getElem.1 hr'
    rw [List.length_set] at hj
    rw [List.getElem_set]
    split
    · exact h1
    · rename_i hne
      have hokj := h4 _ (List.getElem_mem hj)
      have hb : rows[j].b ≠ rows[i].b := fun e => by
        have hnd := List.pairwise_iff_getElem.1 h5
        rcases Nat.lt_or_ge i j with hlt | hge
        · exact hnd i j (by simpa using hi) (by simpa using hj) hlt (by simp [e])
        · exact hnd j i (by simpa using hj) (by simpa using hi) (by omega) (by simp [e])
      exact ⟨hokj.ge, hokj.at_.same (h3 _ hb), hokj.mark⟩
  · have e : (rows.set i (rows[i].put n x)).map RowD.b = rows.map RowD.b := by
      apply List.ext_getElem (by simp)
      intro j h1 h2
      simp only [List.getElem_map, List.getElem_set]
      split
      · rename_i e; subst e; rfl
      · rfl
    rw [e]
    exact h5
theorem t_stRow {t by' f : Nat} {z : List Value} {x y : Operand} {p : Pub} {i n tag : Nat} {rows : List RowD} {r : RowD} {x' : Wd} (kr : Nat) (hT : TD Tryd.prog t 1 by' false z) (hf4 : f < 4) (hi : rows[i]? = some r) (hn : n < r.ws.length) (hx : topP G x = some (pCe r.b (r.off + n * 4 + f)))
    (hy : topP G y = some p) (hp : ∀ {M : Mut} {w : World} {u : Value}, p.p M w u → u.oneCell' = true ∧ ∀ (w' : World) cs, eWord.R (fun _ => none) w' cs (r.ws[n]'hn) → eWord.R (fun _ => none) w' (splice cs f [u]) x') (hg : tlook G kr = some (.gh (rowsG tag rows))) :
    TOp Tryd.prog N ⟨d, .store t x y, ty, pos, aft, g⟩ G [tag] (.gh (rowsG tag (rows.set i (r.put n x')))) := ⟨[x, y], by simp [Op.operands], fun {M0 w0 M w fr} hrn hf => by
  obtain ⟨hlt, rfl⟩ := List.getElem?_eq_some_iff.1 hi
  obtain ⟨_, h0, rfl⟩ := hf.op hx (by simp)
  obtain ⟨u, h1, h2⟩ := hf.op hy (by simp)
  have h3 := hf.out kr _ hg (.inl rfl)
  obtain ⟨q1, q2⟩ := hp h2
  refine op_stRow hT h0 h1 q1 hn (h3.1 _ (List.getElem_mem hlt)) hf4 (q2 w) fun w' k1 k2 k3 => ?_
  exact ⟨M, StW.st k2, rows_set hlt h3 k1 k3⟩⟩
theorem t_stRowS {x y : Operand} {i n tag : Nat} {s : ByteArray} {rows : List RowD} {r : RowD} (kr : Nat) (hi : rows[i]? = some r) (hn : n < r.ws.length) (hx : topP G x = some (pCe r.b (r.off + n * 4 + 0)) := by rfl)
    (hy : topP G y = some (pS s) := by rfl) (hg : tlook G kr = some (.gh (rowsG tag rows)) := by rfl) :
    TOp Tryd.prog N ⟨d, .store 9 x y, ty, pos, aft, g⟩ G [tag] (.gh (rowsG tag (rows.set i (r.put n { r.ws[n]'hn with s := s })))) :=
  t_stRow kr tdStr (by decide) hi hn hx hy (fun {M w u} ⟨e, h2⟩ => by subst e; exact ⟨rfl, fun w' cs hR => w0l.set hR ⟨rfl, h2⟩⟩) hg
theorem t_stRowK {x y : Operand} {i n tag : Nat} {s : ByteArray} {rows : List RowD} {r : RowD} (kr : Nat) (hi : rows[i]? = some r) (hn : n < r.ws.length) (hx : topP G x = some (pCe r.b (r.off + n * 4 + 1)) := by rfl)
    (hy : topP G y = some (pS s) := by rfl) (hg : tlook G kr = some (.gh (rowsG tag rows)) := by rfl) :
    TOp Tryd.prog N ⟨d, .store 9 x y, ty, pos, aft, g⟩ G [tag] (.gh (rowsG tag (rows.set i (r.put n { r.ws[n]'hn with key := s })))) :=
  t_stRow kr tdStr (by decide) hi hn hx hy (fun {M w u} ⟨e, h2⟩ => by subst e; exact ⟨rfl, fun w' cs hR => w1l.set hR ⟨rfl, h2⟩⟩) hg
theorem t_stRowT {x y : Operand} {i n tag : Nat} {m : Int} {rows : List RowD} {r : RowD} (kr : Nat) (hi : rows[i]? = some r) (hn : n < r.ws.length) (hx : topP G x = some (pCe r.b (r.off + n * 4 + 2)) := by rfl)
    (hy : topP G y = some (pI m) := by rfl) (hg : tlook G kr = some (.gh (rowsG tag rows)) := by rfl) :
    TOp Tryd.prog N ⟨d, .store 3 x y, ty, pos, aft, g⟩ G [tag] (.gh (rowsG tag (rows.set i (r.put n { r.ws[n]'hn with table := m })))) :=
  t_stRow kr tdI (by decide) hi hn hx hy (fun {M w u} ⟨e, h2⟩ => by subst e; exact ⟨rfl, fun w' cs hR => w2l.set hR ⟨rfl, h2.1, h2.2⟩⟩) hg
theorem t_callTx {f : FuncId} {args : List Operand} {argT : Array TypeId} {Ps : List Pub} {t : Tx} (tag : Nat) (h : FnTx Tryd.prog f Ps t) (ha : topPs G args = some Ps := by rfl) :
    TOpE Tryd.prog N ⟨d, .call ⟨.value (.func f), args.toArray, argT⟩, ty, pos, aft, g⟩ G [] (fun x : { x : List RowD × List RowD // x.1.map RowD.ws = t.paras ∧ x.2.map RowD.ws = t.notes } => .pu (pV eTxR ⟨x.1.1.map RowD.v, x.1.2.map RowD.v⟩)) (fun x => .gh (rowsG tag (x.1.1 ++ x.1.2))) :=
  ⟨args, (by simp [Op.operands, Call.operands]; intro x hx; exact .inr hx), fun {M0 w0 M w fr} hrn hf => by
  obtain ⟨vs, h1, h2⟩ := hf.ops ha (fun _ h => h)
  refine op_call h.ent h1 (h.run M w vs hrn.mb hf.lay h2) fun v w' ⟨hb, hv⟩ => ?_
  obtain ⟨M', hup, rows, nrows, e1, e2, ⟨pv, nv, rfl, p1, n1⟩, r1, r2⟩ := hv tag
  refine ⟨⟨(rows, nrows), e1, e2⟩, M', StW.up hrn.size hup, ⟨[pv, nv], ⟨[pv], [nv], rfl, ⟨pv, rfl, p1⟩, ⟨nv, rfl, n1⟩⟩, rfl⟩, fun r hr' => ?_, r2⟩
  exact ⟨Nat.le_trans hrn.size (r1 r hr').ge, (r1 r hr').at_, (r1 r hr').mark⟩⟩
end
section
variable {f : FuncId} {N : Nat} {M0 : Mut} {w0 : World} {R : Value → World → Prop} {G : TF} {k : List Item}
theorem c_frzTx {todo : List Item} {a b : List Value} {rows nrows : List RowD} {tag : Nat} (t kr : Nat) (h : Rt Tryd.prog f N M0 w0 todo ((t, .pu (pPtr eText ⟨rows.map RowD.ws, nrows.map RowD.ws⟩)) :: dropW [tag] G) R)
    (ha : rows.map RowD.v = a) (hb : nrows.map RowD.v = b) (ht : topP G (.tmp t) = some (pPtr eTxR ⟨a, b⟩) := by rfl) (hg : tlook G kr = some (.gh (rowsG tag (rows ++ nrows))) := by rfl) : Rt Tryd.prog f N M0 w0 todo G R := ⟨fun {M w fr} hr hf => by
  obtain ⟨v, h1, ad, rfl, cs, hR, hc⟩ := hf.op0 ht (fun _ _ => trivial)
  obtain ⟨r1, r2⟩ := hf.out kr _ hg (.inr trivial)
  have hs := StW.clr w0.heap.size [tag] M w
  obtain ⟨c1, c2, rfl, ⟨pv, rfl, p1⟩, ⟨nv, rfl, n1⟩⟩ := hR
  have hM : ∀ r ∈ rows ++ nrows, RowAt w r ∧ (M.clr w0.heap.size [tag]) r.b = none := fun r hr' => ⟨(r1 r hr').at_, clr_none (r1 r hr').mark (r1 r hr').ge (by simp)⟩
  subst ha hb
  have q1 := rows_read p1 hs.x (fun r hr' => hM r (List.mem_append_left _ hr'))
  have q2 := rows_read n1 hs.x (fun r hr' => hM r (List.mem_append_right _ hr'))
  exact h.out (hr.stw hs) (Fit.hide (hf.after hs) ⟨_, h1, ad, rfl, _, ⟨[pv], [nv], rfl, ⟨pv, rfl, q1⟩, ⟨nv, rfl, q2⟩⟩, fun j u hj => hs.x.cell _ _ (hc j u hj)⟩)⟩
end
instance focWd0 : FOc Tryd.prog 29 0 0 := ⟨fdW0⟩
instance focWd1 : FOc Tryd.prog 29 1 1 := ⟨fdW1⟩
instance focWd2 : FOc Tryd.prog 29 2 2 := ⟨fdW2⟩
end Go.Proofs.YtedlipgopicijaaDoor
end

section
namespace Go.Proofs.YtedlipgopicijaaDoor
open Go Go.RowKit
def sig (w : Wd) : Int × Int := (widM w.s, w.note)
theorem widsW_sig (l : List Wd) : widsW l = (l.map sig).map Prod.fst := by simp [widsW, sig]
theorem notesW_sig (l : List Wd) : notesW l = ((l.map sig).filter fun x => decide (x.2 ≠ 0)).map fun x => x.2 - 1 := by
  rw [List.filter_map, List.map_map]
  rfl
theorem nts_sig (l : List Wd) : nts l = ((l.map sig).filter fun x => decide (x.2 ≠ 0)).map fun x => x.2 := by
  rw [List.filter_map, List.map_map]
  rfl
theorem segW_sig (l : List Wd) (a b : Int) : (segW l a b).map sig = ((l.map sig).drop a.toNat).take (b.toNat - a.toNat) := by
  unfold segW
  rw [List.map_take, List.map_drop]
theorem notesS_sig {ws ws' : List Wd} (h : ws.map sig = ws'.map sig) (a b : Int) : notesW (segW ws a b) = notesW (segW ws' a b) := by
  rw [notesW_sig, notesW_sig, segW_sig, segW_sig, h]
theorem lnGo_sig {ws ws' : List Wd} (h : ws.map sig = ws'.map sig) (first m : Int) : ∀ (l : List Int) (a : Int), lnGo ws first m a l = lnGo ws' first m a l
  | [], _ => rfl
  | e :: r, a => by
    rw [lnGo, lnGo, lnGo_sig h first m r e, notesS_sig h, widsW_sig ws, widsW_sig ws', h]
theorem lnsM_sig {ws ws' : List Wd} (h : ws.map sig = ws'.map sig) (first m : Int) : lnsM ws first m = lnsM ws' first m := by
  unfold lnsM
  rw [widsW_sig ws, widsW_sig ws', h, lnGo_sig h]
theorem len_sig {ws ws' : List Wd} (h : ws.map sig = ws'.map sig) : ws.length = ws'.length := by
  have := congrArg List.length h
  simpa using this
theorem bodyGo_sig {m : Int} : ∀ (ps ps' : List (List Wd)) (first : Int), (ps.map fun p => p.map sig) = (ps'.map fun p => p.map sig) → bodyGo m first ps = bodyGo m first ps'
  | [], [], _, _ => rfl
  | [], _ :: _, _, h => by simp at h
  | _ :: _, [], _, h => by simp at h
  | p :: r, p' :: r', first, h => by
    simp only [List.map_cons, List.cons.injEq] at h
    rw [bodyGo, bodyGo, lnsM_sig h.1, len_sig h.1, bodyGo_sig r r' _ h.2]
theorem notesGo_sig {m : Int} : ∀ (ps ps' : List (List Wd)) (first : Int), (ps.map fun p => p.map sig) = (ps'.map fun p => p.map sig) → notesGo m first ps = notesGo m first ps'
  | [], [], _, _ => rfl
  | [], _ :: _, _, h => by simp at h
  | _ :: _, [], _, h => by simp at h
  | p :: r, p' :: r', first, h => by
    simp only [List.map_cons, List.cons.injEq] at h
    rw [notesGo, notesGo, lnsM_sig h.1, len_sig h.1, notesGo_sig r r' _ h.2]
theorem wordsN_sig {ps ps' : List (List Wd)} (h : (ps.map fun p => p.map sig) = (ps'.map fun p => p.map sig)) : wordsN ps = wordsN ps' := by
  have e : ∀ l : List (List Wd), wordsN l = ((l.map fun p => p.map sig).map List.length).sum := fun l => by
    unfold wordsN
    rw [List.map_map]
    congr 2
    funext p
    simp
  rw [e, e, h]
structure Sim (t t' : Tx) : Prop where
  ps : (t.paras.map fun p => p.map sig) = (t'.paras.map fun p => p.map sig)
  ns : (t.notes.map fun p => p.map sig) = (t'.notes.map fun p => p.map sig)
  ok : ∀ p ∈ t'.paras ++ t'.notes, ∀ w ∈ p, OKWd w
theorem Sim.body {t t' : Tx} (h : Sim t t') (m : Int) : bodyT t' m = bodyT t m := (bodyGo_sig _ _ _ h.ps).symm
theorem Sim.notes {t t' : Tx} (h : Sim t t') (m : Int) : notesT t' m = notesT t m := by
  unfold notesT
  rw [← wordsN_sig h.ps]
  exact (notesGo_sig _ _ _ h.ns).symm
theorem Sim.vt {t t' : Tx} (h : Sim t t') (hv : VT t) : VT t' := by
  have l1 : t.paras.length = t'.paras.length := by simpa using congrArg List.length h.ps
  have l2 : t.notes.length = t'.notes.length := by simpa using congrArg List.length h.ns
  have h1 := hv.np
  have h2 := hv.nn
  have hall : ((t.paras ++ t.notes).map fun p => p.map sig) = ((t'.paras ++ t'.notes).map fun p => p.map sig) := by rw [List.map_append, List.map_append, h.ps, h.ns]
  have key : ∀ p ∈ t'.paras ++ t'.notes, ∃ q ∈ t.paras ++ t.notes, q.map sig = p.map sig := fun p hp => by
    have : p.map sig ∈ ((t'.paras ++ t'.notes).map fun p => p.map sig) := List.mem_map.2 ⟨p, hp, rfl⟩
    rw [← hall] at this
    obtain ⟨q, hq, e⟩ := List.mem_map.1 this
    exact ⟨q, hq, e⟩
  refine ⟨by omega, by omega, fun p hp => ?_, fun p hp => h.ok p (List.mem_append_left _ hp), fun p hp w hw => ⟨h.ok p (List.mem_append_right _ hp) w hw, ?_⟩, ?_⟩
  · obtain ⟨q, hq, e⟩ := key p hp
    have := hv.len q hq
    have := len_sig e
    omega
  · have : p.map sig ∈ (t'.notes.map fun p => p.map sig) := List.mem_map.2 ⟨p, hp, rfl⟩
    rw [← h.ns] at this
    obtain ⟨q, hq, e⟩ := List.mem_map.1 this
    have hm : sig w ∈ p.map sig := List.mem_map.2 ⟨w, hw, rfl⟩
    change q.map sig = p.map sig at e
    rw [← e] at hm
    obtain ⟨w0, hw0, e0⟩ := List.mem_map.1 hm
    have hz := (hv.not q hq w0 hw0).2
    have := congrArg Prod.snd e0
    change w0.note = w.note at this
    omega
  · rw [nts_sig, List.map_flatten, ← h.ps, ← List.map_flatten, ← nts_sig, hv.seq, l2]
structure InvR (sg : List (List (Int × Int))) (vs : List Value) (R : List RowD) : Prop where
  v : R.map RowD.v = vs
  sg : (R.map fun r => r.ws.map sig) = sg
  ok : ∀ r ∈ R, ∀ w ∈ r.ws, OKWd w
theorem InvR.put {sg : List (List (Int × Int))} {vs : List Value} {R : List RowD} {i n : Nat} {r : RowD} {x : Wd} (h : InvR sg vs R) (hi : R[i]? = some r) (hn : n < r.ws.length) (hx : sig x = sig r.ws[n]) (hok : OKWd x) : InvR sg vs (R.set i (r.put n x)) := by
  obtain ⟨hlt, rfl⟩ := List.getElem?_eq_some_iff.1 hi
  refine ⟨(rset_same hlt (put_v _ _ _)).trans h.v, (rset_same hlt ?_).trans h.sg, fun r' hr' w hw => ?_⟩
  · show (R[i].ws.set n x).map sig = R[i].ws.map sig
    exact rset_same hn hx
  · rcases List.mem_or_eq_of_mem_set hr' with hr' | rfl
    · exact h.ok r' hr' w hw
    · rcases List.mem_or_eq_of_mem_set hw with hw | rfl
      · exact h.ok _ (List.getElem_mem hlt) w hw
      · exact hok
theorem gw_even (c : Int) : gw c % 2 = 0 ∧ (gw c ≠ 0 → 4 ≤ gw c) := by
  unfold gw
  split
  · omega
  · cases h : tbl[(c - 33).toNat]? with
    | none => simp
    | some x =>
      have hall : ∀ x ∈ tbl, x % 2 = 0 ∧ (x ≠ 0 → 4 ≤ x) := by decide
      exact hall x (List.mem_of_getElem? h)
theorem sumG_even : ∀ l : List Int, sumG l % 2 = 0
  | [] => by simp [sumG]
  | c :: l => by
    have h1 := gw_even c
    have h2 := sumG_even l
    have e : sumG (c :: l) = gw c + sumG l := by simp [sumG]
    rw [e]
    omega
theorem widM_even {s : ByteArray} (h : 0 < widM s) : 4 ≤ widM s ∧ widM s ≤ 480 ∧ widM s % 2 = 0 := by
  refine ⟨?_, (widM_rng s).2, ?_⟩
  · unfold widM at h ⊢
    split at h
    · omega
    · rename_i h40
      split at h
      · rename_i hok
        rw [if_neg h40, if_pos hok]
        cases hb : bs s with
        | nil => rw [hb] at h; simp [sumG] at h
        | cons c l =>
          rw [hb] at hok
          have h1 := gw_even c
          have h2 := (sumG_rng l).1
          have h3 : gw c ≠ 0 := by simp [okG] at hok; exact hok.1
          have e : sumG (c :: l) = gw c + sumG l := by simp [sumG]
          rw [e]
          have := h1.2 h3
          omega
      · omega
  · unfold widM
    split
    · rfl
    · split
      · exact sumG_even _
      · rfl
def tailsV : List ByteArray := [⟨#[]⟩, ⟨#[69, 105]⟩, ⟨#[105]⟩, ⟨#[116]⟩, ⟨#[97]⟩, ⟨#[69]⟩]
def fillK (w i : Int) : Nat := (w.tdiv 12 - if i = 1 then 1 else 0).toNat
def mS (k : Nat) : ByteArray := ⟨(List.replicate k (109 : UInt8)).toArray⟩
def fillS (w : Int) : ByteArray := mS (fillK w ((w.tmod 12).tdiv 2)) ++ (tailsV[((w.tmod 12).tdiv 2).toNat]?).getD ⟨#[]⟩
theorem fill_all : ∀ k : Nat, k < 239 → widM (fillS ((2 * (k + 2) : Nat) : Int)) = ((2 * (k + 2) : Nat) : Int) := by decide +kernel
theorem fill_wid {w : Int} (h : 4 ≤ w ∧ w ≤ 480 ∧ w % 2 = 0) : widM (fillS w) = w := by
  have e : w = ((2 * ((w.toNat / 2 - 2) + 2) : Nat) : Int) := by omega
  rw [e]
  exact fill_all _ (by omega)
theorem mS_size (k : Nat) : (mS k).size = k := by simp [mS, ByteArray.size]
end Go.Proofs.YtedlipgopicijaaDoor
end
