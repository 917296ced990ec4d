/-
  Part 4 of 5 of the proof of pageCovers_card: lemmas on which it rests, each for all inputs. Merged from the texts D12 D13 D21 M27 S2 S3 S4 S5 S6 S7 S8 S9 S10 P27 S11 P27b S12 P27c S13 P27d P27e S14 T1 S15 T2 P27f S17.
-/
import Derived.Calls
import Derived.Orders
import Derived.Below
import Derived.KernelRfl
import Derived.WalkKit
import Derived.Laws.AppendOwn
import Derived.Laws.Rows
import Derived.Deep.Slices
import Derived.Laws.OwnMore
import Derived.Laws.MakeOwn
import Derived.Laws.CopyRow
import Derived.Still
import Derived.Lib.SliceRun
import Derived.Test.YtocoinkhbjlbhaaDoorChecked
import Derived.Lib.AppendZeros
import Derived.Scope
import Derived.Test.YtocoinkhbjlbhaaDoorPCx3
section
namespace Go.Proofs.YtocoinkhbjlbhaaDoor
open Go Go.RowKit
theorem wErr_ok {w : Wd} {nx n : Int} (h : wErr w nx n = 0) : 0 < widM w.s ∧ (w.key = emp ∨ 0 < widM w.key) ∧ (w.table = 0 ∨ w.table = 1) ∧ (w.note = 0 ∨ (w.note = nx ∧ w.note ≤ n)) := by
  unfold wErr at h
  split at h
  · cases h
  · rename_i h1
    split at h
    · cases h
    · rename_i h2
      split at h
      · cases h
      · rename_i h3
        refine ⟨Classical.byContradiction fun c => h1 (.inl c), ?_, by omega, ?_⟩
        · by_cases hk : w.key = emp
          · exact .inl hk
          · exact .inr (Classical.byContradiction fun c => h1 (.inr ⟨hk, c⟩))
        · by_cases h0 : w.note = 0
          · exact .inl h0
          · refine .inr ⟨Classical.byContradiction fun c => h3 ⟨h0, .inl c⟩, ?_⟩
            by_cases hn : n < w.note
            · exact absurd ⟨h0, .inr hn⟩ h3
            · omega
theorem chkP_ok {n : Int} {K : Int → Int} : ∀ {l : List Wd} {next : Int}, 1 ≤ next → chkP n K l next = 0 → (∀ w ∈ l, ∃ nx, 1 ≤ nx ∧ wErr w nx n = 0) ∧ ∃ nx, 1 ≤ nx ∧ K nx = 0
  | [], next, h1, h => ⟨(fun w hw => by cases hw), next, h1, h⟩
  | w :: r, next, h1, h => by
    simp only [chkP] at h
    by_cases he : wErr w next n = 0
    · rw [if_neg (fun c => c he)] at h
      have h2 : 1 ≤ (if w.note ≠ 0 then next + 1 else next) := by split <;> omega
      obtain ⟨k1, k2⟩ := chkP_ok h2 h
      exact ⟨fun x hx => by
        rcases List.mem_cons.1 hx with rfl | hx
        · exact ⟨next, h1, he⟩
        · exact k1 x hx, k2⟩
    · rw [if_pos he] at h
      exact absurd h he
theorem chkA_ok {n : Int} {K : Int → Int} : ∀ {l : List (List Wd)} {next : Int}, 1 ≤ next → chkA n K l next = 0 → (∀ p ∈ l, ∀ w ∈ p, ∃ nx, 1 ≤ nx ∧ wErr w nx n = 0) ∧ ∃ nx, 1 ≤ nx ∧ K nx = 0
  | [], next, h1, h => ⟨(fun w hw => by cases hw), next, h1, h⟩
  | p :: r, next, h1, h => by
    simp only [chkA] at h
    obtain ⟨k1, nx, k2, k3⟩ := chkP_ok h1 h
    obtain ⟨k4, k5⟩ := chkA_ok k2 k3
    exact ⟨fun q hq => by
      rcases List.mem_cons.1 hq with rfl | hq
      · exact k1
      · exact k4 q hq, k5⟩
theorem chkQ_ok {K : Int} : ∀ {l : List Wd}, chkQ K l = 0 → (∀ w ∈ l, wErr w 0 0 = 0) ∧ K = 0
  | [], h => ⟨(fun w hw => by cases hw), h⟩
  | w :: r, h => by
    simp only [chkQ] at h
    by_cases he : wErr w 0 0 = 0
    · rw [if_neg (fun c => c he)] at h
      obtain ⟨k1, k2⟩ := chkQ_ok h
      exact ⟨fun x hx => by
        rcases List.mem_cons.1 hx with rfl | hx
        · exact he
        · exact k1 x hx, k2⟩
    · rw [if_pos he] at h
      exact absurd h he
theorem chkB_ok {K : Int} : ∀ {l : List (List Wd)}, chkB K l = 0 → (∀ p ∈ l, ∀ w ∈ p, wErr w 0 0 = 0) ∧ K = 0
  | [], h => ⟨(fun w hw => by cases hw), h⟩
  | p :: r, h => by
    simp only [chkB] at h
    obtain ⟨k1, k2⟩ := chkQ_ok h
    obtain ⟨k4, k5⟩ := chkB_ok k2
    exact ⟨fun q hq => by
      rcases List.mem_cons.1 hq with rfl | hq
      · exact k1
      · exact k4 q hq, k5⟩
structure OKT (t : Tx) : Prop where
  np : t.paras.length ≤ 100
  nn : t.notes.length ≤ 100
  par : ∀ p ∈ t.paras, OKR p
  not : ∀ p ∈ t.notes, OKR p
theorem okt_of {t : Tx} (h : chkT t = 0) : OKT t := by
  unfold chkT at h
  by_cases hs : sizeM t = 0
  · rw [if_neg (fun c => c hs)] at h
    obtain ⟨s1, s2, s3⟩ := size_ok hs
    obtain ⟨k1, nx, _, k2⟩ := chkA_ok (by omega) h
    obtain ⟨k3, _⟩ := chkB_ok k2
    refine ⟨s1, s2, fun p hp => ⟨(s3 p (List.mem_append_left _ hp)).2, fun w hw => ?_, fun w hw => ?_⟩, fun p hp => ⟨(s3 p (List.mem_append_right _ hp)).2, fun w hw => ?_, fun w hw => ?_⟩⟩
    · obtain ⟨nx, q1, q2⟩ := k1 p hp w hw
      have := (wErr_ok q2).1
      omega
    · obtain ⟨nx, q1, q2⟩ := k1 p hp w hw
      have := (wErr_ok q2).2.2.2
      omega
    · have := (wErr_ok (k3 p hp w hw)).1
      omega
    · have := (wErr_ok (k3 p hp w hw)).2.2.2
      omega
  · rw [if_pos hs] at h
    exact absurd h hs
theorem lnGo_len (ws : List Wd) (first m : Int) : ∀ (l : List Int) (a : Int), (lnGo ws first m a l).length = l.length
  | [], a => rfl
  | e :: r, a => by simp [lnGo, lnGo_len ws first m r e]
theorem lnsM_len {ws : List Wd} {first m : Int} (h : OKR ws) (hm : 500 ≤ m) : (lnsM ws first m).length ≤ ws.length := by
  unfold lnsM
  rw [lnGo_len]
  have := ordEn_len (ends_ord hm h.ok)
  rw [widsW_len] at this
  omega
def bodyT (t : Tx) (m : Int) : List Line := bodyGo m 0 t.paras
def notesT (t : Tx) (m : Int) : List (List Line) := notesGo m (wordsN t.paras) t.notes
def errT (t : Tx) (m : Int) : Int := if chkT t ≠ 0 then chkT t else if m < 500 ∨ 2000 < m then 5 else 0
theorem wordsN_take {l : List (List Wd)} {i : Nat} (h : i < l.length) : wordsN (l.take (i + 1)) = wordsN (l.take i) + l[i].length := by
  unfold wordsN
  rw [List.take_succ_eq_append_getElem h, List.map_append, List.sum_append]; simp
theorem wordsN_le : ∀ {l : List (List Wd)}, (∀ p ∈ l, p.length ≤ 500) → wordsN l ≤ 500 * l.length
  | [], _ => by simp [wordsN]
  | p :: r, h => by
    have h1 := h p (by simp)
    have h2 := wordsN_le (l := r) (fun q hq => h q (by simp [hq]))
    have e : wordsN (p :: r) = p.length + wordsN r := by simp [wordsN]
    rw [e, List.length_cons]; omega
theorem wordsN_takeLe {l : List (List Wd)} (h : ∀ p ∈ l, p.length ≤ 500) (i : Nat) : wordsN (l.take i) ≤ 500 * l.length := by
  have h1 := wordsN_le (l := l.take i) (fun p hp => h p (List.mem_of_mem_take hp))
  have h2 : (l.take i).length ≤ l.length := by rw [List.length_take]; omega
  omega
set_option maxHeartbeats 8000000 in
theorem linesT_f {t : Tx} {m : Int} (h48 : (t.paras.length + t.notes.length) * 24 ≤ 140737488351232) :
    Fn Tryd.prog 11 [pV eText t, pI m] (pT3 (pSl eLine (if errT t m = 0 then bodyT t m else [])) (pSl (eSl eLine) (if errT t m = 0 then notesT t m else [])) (pI (errT t m))) := by
  refine fn_of ent11 Tryd.func11 rfl Tryd.ntmps11 rfl fun M0 w0 => ?_
  by_cases hc : chkT t = 0
  rotate_left
  · have e : errT t m = chkT t := by unfold errT; rw [if_pos hc]
    rw [e, if_neg hc, if_neg hc]
    (repeat (first | refine c_seq ?_ | refine c_reg ?_ | refine c_rnil ?_ | refine c_true ?_ | refine c_op (by first | exact t_call (h := (check25_f h48)) | exact t_move | exact t_assign | exact t_neqT | exact t_load | exact t_boxP | fail) ?_ | fail))
    refine c_ret3 Tryd.func11 rfl ?_
    exact fun h1 h2 h3 => ⟨_, _, _, rfl, by rw [show _ = _ from h1]; exact SlOf.nil _ _ _, by rw [show _ = _ from h2]; exact SlOf.nil _ _ _, h3⟩
  by_cases hm : m < 500 ∨ 2000 < m
  · have e : errT t m = 5 := by unfold errT; rw [if_neg (fun c => c hc), if_pos hm]
    rw [e, if_neg (by decide), if_neg (by decide)]
    by_cases hm1 : m < 500
    · (repeat (first | refine c_seq ?_ | refine c_reg ?_ | refine c_rnil ?_ | refine c_skip ?_ | refine c_true ?_ | refine c_false ?_ | refine c_no ?_ | refine c_op (by first | exact t_call (h := (check25_f h48)) | exact t_move | exact t_assign | exact t_pickT | exact t_lssT | exact t_neqF | exact t_load | exact t_boxP | fail) ?_ | fail))
      refine c_ret3 Tryd.func11 rfl ?_
      exact fun h1 h2 h3 => ⟨_, _, _, rfl, by rw [show _ = _ from h1]; exact SlOf.nil _ _ _, by rw [show _ = _ from h2]; exact SlOf.nil _ _ _, h3⟩
    · have hm2 : 2000 < m := by omega
      (repeat (first | refine c_seq ?_ | refine c_reg ?_ | refine c_rnil ?_ | refine c_skip ?_ | refine c_true ?_ | refine c_false ?_ | refine c_yes ?_ | refine c_op (by first | exact t_call (h := (check25_f h48)) | exact t_move | exact t_assign | exact t_pickF | exact t_lssF | exact t_gtrT | exact t_neqF | exact t_load | exact t_boxP | fail) ?_ | fail))
      refine c_ret3 Tryd.func11 rfl ?_
      exact fun h1 h2 h3 => ⟨_, _, _, rfl, by rw [show _ = _ from h1]; exact SlOf.nil _ _ _, by rw [show _ = _ from h2]; exact SlOf.nil _ _ _, h3⟩
  have e : errT t m = 0 := by unfold errT; rw [if_neg (fun c => c hc), if_neg hm]
  rw [e, if_pos rfl, if_pos rfl]
  have hok := okt_of hc
  have hm' : 500 ≤ m ∧ m ≤ 2000 := by omega
  have hnp := hok.np
  have hnn := hok.nn
  have hpl : ∀ p ∈ t.paras, p.length ≤ 500 := fun p hp => (hok.par p hp).len
  have hnl : ∀ p ∈ t.notes, p.length ≤ 500 := fun p hp => (hok.not p hp).len
  have hwp := wordsN_le hpl
  (repeat (first | refine c_seq ?_ | refine c_reg ?_ | refine c_rnil ?_ | refine c_block ?_ | refine c_skip ?_ | refine c_false ?_ | refine c_yes ?_ | refine c_op (by first | exact t_call (h := (check25_f h48)) | exact t_move | exact t_assign | exact t_pickF | exact t_lssF | exact t_gtrF | exact t_neqF | exact t_len | exact t_load | exact t_fa | exact t_boxP | fail) ?_ | fail))
  refine c_loop (fun x : Nat × List Line => [(1, .pu (pI m)), (2, .pu (pPtr eText t)), (8, .gr eLine x.2 1 42), (9, .pu (pv (.slice none 0 0))), (10, .pu (pI (wordsN (t.paras.take x.1)))), (27, .pu (pSl (eSl eWord) t.paras)), (28, .pu (pI t.paras.length)), (29, .pu (pI x.1))])
    (fun x => x.1 ≤ t.paras.length ∧ x.2.length ≤ wordsN (t.paras.take x.1) ∧ x.2 ++ bodyGo m (wordsN (t.paras.take x.1)) (t.paras.drop x.1) = bodyT t m) (fun x => t.paras.length - x.1) (0, []) ⟨by simp, by simp, rfl⟩ (by repeat (first | exact trivial | refine ⟨has_rfl rfl, ?_⟩ | refine ⟨has_nil rfl, ?_⟩ | fail)) ?_
  rintro ⟨i, L⟩ ⟨hi, hLl, hL⟩ ih
  dsimp only at hi hLl hL ih ⊢
  have hti := wordsN_takeLe hpl i
  by_cases hlt : i < t.paras.length
  · rw [List.drop_eq_getElem_cons hlt] at hL
    simp only [bodyGo] at hL
    have hokp := hok.par _ (List.getElem_mem hlt)
    have hpll := hokp.len
    have hts := wordsN_take hlt
    have hll := lnsM_len (first := (wordsN (t.paras.take i) : Nat)) hokp hm'.1
    (repeat (first | refine c_seq ?_ | refine c_reg ?_ | refine c_rnil ?_ | refine c_block ?_ | refine c_inBlock ?_ | refine c_skip ?_ | refine c_true ?_ | refine c_op (by first | exact t_call (h := (setL_f hm' (by omega) hokp)) | exact t_moveG | exact t_move | exact t_assignG | exact t_assign | exact t_add | exact t_lssT | exact t_len | exact t_idxN | exact t_load | fail) ?_ | refine c_opW t_app ?_ | fail))
    refine (ih (i + 1, L ++ lnsM t.paras[i] (wordsN (t.paras.take i) : Nat) m) ⟨by dsimp only; omega, by dsimp only; rw [List.length_append]; omega, ?_⟩ (by dsimp only; omega)).sub (by repeat (first | exact trivial | refine ⟨has_rfl rfl, ?_⟩ | refine ⟨has_int rfl (by first | (simp only [List.length_append, List.length_singleton]; omega)), ?_⟩))
    dsimp only
    rw [← hL, hts, List.append_assoc]
    rfl
  · have hd : t.paras.drop i = [] := List.drop_of_length_le (by omega)
    rw [hd] at hL
    simp only [bodyGo, List.append_nil] at hL
    have hti2 : t.paras.take i = t.paras := List.take_of_length_le (by omega)
    rw [hti2] at hLl ⊢
    (repeat (first | refine c_seq ?_ | refine c_reg ?_ | refine c_rnil ?_ | refine c_block ?_ | refine c_exit ?_ | refine c_false ?_ | refine c_op (by first | exact t_move | exact t_lssF | exact t_len | exact t_load | exact t_fa | fail) ?_ | fail))
    refine c_loop (fun x : Nat × List (List Line) => [(1, .pu (pI m)), (2, .pu (pPtr eText t)), (8, .gr eLine L 1 42), (9, .gr (eSl eLine) x.2 2 33), (10, .pu (pI (wordsN t.paras + wordsN (t.notes.take x.1) : Nat))), (45, .pu (pSl (eSl eWord) t.notes)), (46, .pu (pI t.notes.length)), (47, .pu (pI x.1))])
      (fun x => x.1 ≤ t.notes.length ∧ x.2.length = x.1 ∧ x.2 ++ notesGo m (wordsN t.paras + wordsN (t.notes.take x.1) : Nat) (t.notes.drop x.1) = notesT t m) (fun x => t.notes.length - x.1) (0, []) ⟨by simp, rfl, rfl⟩ (by repeat (first | exact trivial | refine ⟨has_rfl rfl, ?_⟩ | refine ⟨has_nil rfl, ?_⟩ | fail)) ?_
    rintro ⟨j, Ns⟩ ⟨hj, hNl, hN⟩ ih2
    dsimp only at hj hNl hN ih2 ⊢
    have htj := wordsN_takeLe hnl j
    by_cases hlj : j < t.notes.length
    · rw [List.drop_eq_getElem_cons hlj] at hN
      simp only [notesGo] at hN
      have hokp := hok.not _ (List.getElem_mem hlj)
      have hpll := hokp.len
      have hts := wordsN_take hlj
      (repeat (first | refine c_seq ?_ | refine c_reg ?_ | refine c_rnil ?_ | refine c_block ?_ | refine c_inBlock ?_ | refine c_skip ?_ | refine c_true ?_ | refine c_op (by first | exact t_call (h := (setL_f hm' (by omega) hokp)) | exact t_moveG | exact t_move | exact t_assignG | exact t_assign | exact t_add | exact t_lssT | exact t_len | exact t_idxN | exact t_load | exact t_bs | fail) ?_ | refine c_opW t_app ?_ | fail))
      refine (ih2 (j + 1, Ns ++ [lnsM t.notes[j] (wordsN t.paras + wordsN (t.notes.take j) : Nat) m]) ⟨by dsimp only; omega, by dsimp only; rw [List.length_append, List.length_singleton]; omega, ?_⟩ (by dsimp only; omega)).sub (by repeat (first | exact trivial | refine ⟨has_rfl rfl, ?_⟩ | refine ⟨has_int rfl (by first | (simp only [List.length_append, List.length_singleton]; omega)), ?_⟩))
      dsimp only
      rw [← hN, hts, List.append_assoc, ← Nat.add_assoc]
      rfl
    · have hd : t.notes.drop j = [] := List.drop_of_length_le (by omega)
      rw [hd] at hN
      simp only [notesGo, List.append_nil] at hN
      rw [← hL, ← hN]
      (repeat (first | refine c_seq ?_ | refine c_reg ?_ | refine c_rnil ?_ | refine c_exit ?_ | refine c_false ?_ | refine c_op (by first | exact t_moveG | exact t_assignG | exact t_assign | exact t_lssF | fail) ?_ | fail))
      refine c_ret3 Tryd.func11 rfl ?_
      exact fun h1 h2 h3 => ⟨_, _, _, rfl, h1, h2, h3⟩
end Go.Proofs.YtocoinkhbjlbhaaDoor
end

section
namespace Go.Proofs.YtocoinkhbjlbhaaDoor
open Go Go.RowKit
end Go.Proofs.YtocoinkhbjlbhaaDoor
end

section
namespace Go.Proofs.YtocoinkhbjlbhaaDoor
open Go Go.RowKit
def nts (l : List Wd) : List Int := (l.filter fun w => decide (w.note ≠ 0)).map fun w => w.note
def seqI (a : Int) : Nat → List Int
  | 0 => []
  | c + 1 => a :: seqI (a + 1) c
theorem seqI_snoc : ∀ (c : Nat) (a : Int), seqI a (c + 1) = seqI a c ++ [a + c]
  | 0, a => by simp [seqI]
  | c + 1, a => by
    rw [seqI, seqI_snoc c (a + 1)]
    simp only [seqI, List.cons_append]
    congr 3
    omega
theorem nts_append (a b : List Wd) : nts (a ++ b) = nts a ++ nts b := by simp [nts]
theorem nts_none {l : List Wd} (h : ∀ w ∈ l, w.note = 0) : nts l = [] := by
  unfold nts
  rw [List.filter_eq_nil_iff.2 (fun w hw => by simp [h w hw])]
  rfl
structure VT (t : Tx) : Prop where
  np : 1 ≤ t.paras.length ∧ t.paras.length ≤ 4
  nn : t.notes.length ≤ 4
  len : ∀ p ∈ t.paras ++ t.notes, 1 ≤ p.length ∧ p.length ≤ 40
  par : ∀ p ∈ t.paras, ∀ w ∈ p, OKWd w
  not : ∀ p ∈ t.notes, ∀ w ∈ p, OKWd w ∧ w.note = 0
  seq : nts t.paras.flatten = seqI 1 t.notes.length
theorem chkP_append {n : Int} {K : Int → Int} : ∀ (a b : List Wd) (next : Int), chkP n K (a ++ b) next = chkP n (chkP n K b) a next
  | [], b, next => rfl
  | w :: a, b, next => by simp only [List.cons_append, chkP, chkP_append a b]
theorem chkA_flat {n : Int} {K : Int → Int} : ∀ (ps : List (List Wd)) (next : Int), chkA n K ps next = chkP n K ps.flatten next
  | [], next => rfl
  | p :: r, next => by
    rw [chkA, List.flatten_cons, chkP_append]
    congr 1
    funext x
    exact chkA_flat r x
theorem wErr_okw {w : Wd} {next n : Int} (h : OKWd w) (h2 : w.note = 0 ∨ (w.note = next ∧ next ≤ n)) : wErr w next n = 0 := by
  unfold wErr
  rw [if_neg (fun c => c.elim (fun c => c h.s) (fun c => h.key.elim c.1 c.2)), if_neg (fun c => h.table.elim c.1 c.2), if_neg]
  rintro ⟨c1, c2⟩
  rcases h2 with h2 | ⟨h2, h3⟩
  · exact c1 h2
  · rcases c2 with c2 | c2
    · exact c2 h2
    · omega
theorem chkP_seq {n : Int} {K : Int → Int} : ∀ {l : List Wd} {next : Int} {c : Nat}, (∀ w ∈ l, OKWd w) → nts l = seqI next c → next + c ≤ n + 1 → chkP n K l next = K (next + c)
  | [], next, c, _, h, _ => by
    cases c with
    | zero => simp [chkP]
    | succ c => simp [nts, seqI] at h
  | w :: r, next, c, hw, h, hc => by
    have hw0 := hw w (by simp)
    have hr : ∀ x ∈ r, OKWd x := fun x hx => hw x (by simp [hx])
    by_cases h0 : w.note = 0
    · have hn : nts (w :: r) = nts r := by simp [nts, h0]
      rw [hn] at h
      simp only [chkP]
      rw [if_neg (fun q => q (wErr_okw hw0 (.inl h0))), if_neg (fun q => q h0)]
      exact chkP_seq hr h hc
    · have hn : nts (w :: r) = w.note :: nts r := by simp [nts, h0]
      rw [hn] at h
      cases c with
      | zero => simp [seqI] at h
      | succ c =>
        simp only [seqI, List.cons.injEq] at h
        simp only [chkP]
        rw [if_neg (fun q => q (wErr_okw hw0 (.inr ⟨h.1, by omega⟩))), if_pos h0, chkP_seq hr h.2 (by omega)]
        congr 1
        omega
theorem chkQ_zero {K : Int} : ∀ {l : List Wd}, (∀ w ∈ l, OKWd w ∧ w.note = 0) → chkQ K l = K
  | [], _ => rfl
  | w :: r, h => by
    obtain ⟨h1, h2⟩ := h w (by simp)
    simp only [chkQ]
    rw [if_neg (fun q => q (wErr_okw h1 (.inl h2)))]
    exact chkQ_zero (fun x hx => h x (by simp [hx]))
theorem chkB_zero {K : Int} : ∀ {l : List (List Wd)}, (∀ p ∈ l, ∀ w ∈ p, OKWd w ∧ w.note = 0) → chkB K l = K
  | [], _ => rfl
  | p :: r, h => by
    simp only [chkB]
    rw [chkQ_zero (h p (by simp))]
    exact chkB_zero (fun q hq => h q (by simp [hq]))
theorem VT.chk {t : Tx} (h : VT t) : chkT t = 0 := by
  have hs : sizeM t = 0 := by
    unfold sizeM
    have h1 := h.np
    have h2 := h.nn
    rw [if_neg (by omega), if_neg, if_neg]
    · unfold noneP
      simp only [List.any_eq_true, not_exists, decide_eq_true_eq, not_and]
      intro p hp
      have := h.len p hp
      omega
    · unfold longP
      simp only [List.any_eq_true, not_exists, decide_eq_true_eq, not_and]
      intro p hp
      have := h.len p hp
      omega
  unfold chkT
  rw [if_neg (fun q => q hs), chkA_flat, chkP_seq (c := t.notes.length) (fun w hw => by
    obtain ⟨p, hp, hw⟩ := List.mem_flatten.1 hw
    exact h.par p hp w hw) h.seq (by omega), chkB_zero h.not]
  unfold lastK
  rw [if_neg]
  omega
theorem fromGo_ge : ∀ (l : List Wd) (i f : Nat), f ≤ i → (∀ j (hj : j < l.length), fromGo l i f ≤ i + j → l[j].note = 0) ∧ (f ≤ fromGo l i f)
  | [], i, f, h => ⟨fun j hj => by simp at hj, by simp [fromGo]⟩
  | w :: r, i, f, h => by
    simp only [fromGo]
    obtain ⟨k1, k2⟩ := fromGo_ge r (i + 1) (if w.note ≠ 0 then i + 1 else f) (by split <;> omega)
    refine ⟨fun j hj hle => ?_, ?_⟩
    · cases j with
      | zero =>
        simp only [List.getElem_cons_zero]
        by_cases h0 : w.note = 0
        · exact h0
        · rw [if_pos h0] at k2 hle
          omega
      | succ j =>
        simp only [List.getElem_cons_succ]
        exact k1 j (by simpa using hj) (by omega)
    · by_cases h0 : w.note = 0
      · rw [if_neg (fun q => q h0)] at k2 ⊢
        exact k2
      · rw [if_pos h0] at k2 ⊢
        omega
theorem from_note {ws : List Wd} {j : Nat} (hj : j < ws.length) (h : fromM ws ≤ j) : ws[j].note = 0 := (fromGo_ge ws 0 0 (Nat.le_refl _)).1 j hj (by unfold fromM at h; omega)
theorem findK_spec {ps : List (List Wd)} : ∀ {f k j : Nat}, findK ps k f = some j → k + f ≤ ps.length → j < ps.length ∧ refOk ((ps[j]?).getD []) (lastM ps j) = true
  | 0, k, j, h, _ => by cases h
  | f + 1, k, j, h, hl => by
    simp only [findK] at h
    split at h
    · cases h
      exact ⟨by omega, by assumption⟩
    · exact findK_spec h (by omega)
theorem part_vt {n most : Int} (hn : 0 ≤ n) (hm : 1 ≤ most ∧ most ≤ 40) : 1 ≤ (partM n most).length ∧ (partM n most).length ≤ 40 ∧ ∀ w ∈ partM n most, OKWd w ∧ w.note = 0 := by
  have h1 := tmod_rng' (k := most) hn (by omega)
  unfold partM
  rw [partGo_len]
  exact ⟨by omega, by omega, partGo_ok _ _⟩
theorem noteStep_vt {t : Tx} (h : VT t) (hn : t.notes.length ≤ 3) {n : Int} (h0 : 0 ≤ n) : VT (noteStep t n) ∧ (noteStep t n).notes.length ≤ t.notes.length + 1 := by
  unfold noteStep
  split
  · exact ⟨h, by omega⟩
  · rename_i k hk
    obtain ⟨hkl, hro⟩ := findK_spec hk (by omega)
    obtain ⟨p1, p2, p3⟩ := part_vt h0 (most := 12) (by omega)
    have hget : (t.paras[k]?).getD [] = t.paras[k] := by rw [List.getElem?_eq_getElem hkl]; rfl
    rw [hget] at hro ⊢
    have hro2 : lastM t.paras k = false ∧ fromM t.paras[k] < t.paras[k].length := by
      unfold refOk at hro
      simpa using hro
    obtain ⟨hl, hf⟩ := hro2
    obtain ⟨a1, a2⟩ := refAt_lt h0 hf
    obtain ⟨q, hq⟩ : ∃ q, q = refAt t.paras[k] n := ⟨_, rfl⟩
    rw [← hq] at a1 a2
    have hmem : t.paras[k] ∈ t.paras := List.getElem_mem hkl
    have hw := h.par _ hmem _ (List.getElem_mem a2)
    obtain ⟨w', hw'⟩ : ∃ w', w' = ({ t.paras[k][q] with note := (t.notes.length : Int) + 1 } : Wd) := ⟨_, rfl⟩
    have hput : putRef t.paras[k] n ((t.notes.length : Int) + 1) = t.paras[k].set q w' := by
      unfold putRef
      rw [← hq, List.getElem?_eq_getElem a2, hw']
      rfl
    rw [hput]
    have hok' : OKWd w' := by rw [hw']; exact ⟨hw.s, hw.key, hw.table⟩
    have hset : ∀ p ∈ t.paras.set k (t.paras[k].set q w'), (p.length = t.paras[k].length ∧ ∀ w ∈ p, OKWd w) ∨ p ∈ t.paras := fun p hp => by
      rcases List.mem_or_eq_of_mem_set hp with hp | rfl
      · exact .inr hp
      · refine .inl ⟨by simp, fun w hw => ?_⟩
        rcases List.mem_or_eq_of_mem_set hw with hw | rfl
        · exact h.par _ hmem w hw
        · exact hok'
    have hlen0 := h.len _ (List.mem_append_left _ hmem)
    refine ⟨⟨by simpa using h.np, by simp; omega, fun p hp => ?_, fun p hp => ?_, fun p hp => ?_, ?_⟩, by simp⟩
    · rcases List.mem_append.1 hp with hp | hp
      · rcases hset p hp with ⟨e, _⟩ | hp
        · omega
        · exact h.len p (List.mem_append_left _ hp)
      · rcases List.mem_append.1 hp with hp | hp
        · exact h.len p (List.mem_append_right _ hp)
        · rw [List.mem_singleton.1 hp]; exact ⟨p1, p2⟩
    · rcases hset p hp with ⟨_, e⟩ | hp
      · exact e
      · exact h.par p hp
    · rcases List.mem_append.1 hp with hp | hp
      · exact h.not p hp
      · rw [List.mem_singleton.1 hp]; exact p3
    · have hseq := h.seq
      have e1 : t.paras = t.paras.take k ++ t.paras[k] :: t.paras.drop (k + 1) := by rw [← List.drop_eq_getElem_cons hkl, List.take_append_drop]
      have e2 : t.paras.set k (t.paras[k].set q w') = t.paras.take k ++ (t.paras[k].set q w') :: t.paras.drop (k + 1) := List.set_eq_take_append_cons_drop.trans (by rw [if_pos hkl])
      have hd : nts (t.paras.drop (k + 1)).flatten = [] := nts_none fun w hw => by
        obtain ⟨p, hp, hw⟩ := List.mem_flatten.1 hw
        unfold lastM at hl
        rw [List.any_eq_false] at hl
        have := hl p hp
        rw [Bool.not_eq_true, List.any_eq_false] at this
        have := this w hw
        simpa using this
      have e3 : t.paras[k] = t.paras[k].take q ++ t.paras[k][q] :: t.paras[k].drop (q + 1) := by rw [← List.drop_eq_getElem_cons a2, List.take_append_drop]
      have e4 : t.paras[k].set q w' = t.paras[k].take q ++ w' :: t.paras[k].drop (q + 1) := List.set_eq_take_append_cons_drop.trans (by rw [if_pos a2])
      have hd2 : nts (t.paras[k].drop (q + 1)) = [] := nts_none fun w hw => by
        obtain ⟨j, hj, rfl⟩ := List.mem_iff_getElem.1 hw
        rw [List.getElem_drop]
        rw [List.length_drop] at hj
        exact from_note (by omega) (by omega)
      have hn1 : nts [t.paras[k][q]] = [] := nts_none fun w hw => by rw [List.mem_singleton.1 hw]; exact from_note a2 a1
      have hn2 : nts [w'] = [(t.notes.length : Int) + 1] := by
        rw [hw']
        unfold nts
        have : ¬ ((t.notes.length : Int) + 1 = 0) := by omega
        simp [this]
      have f1 : nts t.paras.flatten = nts (t.paras.take k).flatten ++ nts (t.paras[k].take q) := by
        conv => lhs; rw [e1]
        rw [List.flatten_append, List.flatten_cons, nts_append, nts_append, hd, List.append_nil]
        conv => lhs; rw [e3]
        rw [nts_append, show t.paras[k][q] :: t.paras[k].drop (q + 1) = [t.paras[k][q]] ++ t.paras[k].drop (q + 1) from rfl, nts_append, hn1, hd2]
        simp
      have f2 : nts (t.paras.set k (t.paras[k].set q w')).flatten = nts (t.paras.take k).flatten ++ nts (t.paras[k].take q) ++ [(t.notes.length : Int) + 1] := by
        rw [e2, List.flatten_append, List.flatten_cons, nts_append, nts_append, hd, List.append_nil, e4, nts_append, show w' :: t.paras[k].drop (q + 1) = [w'] ++ t.paras[k].drop (q + 1) from rfl, nts_append, hn2, hd2]
        simp
      rw [f2, ← f1, hseq, List.length_append, List.length_singleton, seqI_snoc]
      congr 2
      omega
theorem textN_vt (l : List Int) : ∀ c, c ≤ 3 → VT (textN l c) ∧ (textN l c).notes.length ≤ c
  | 0, _ => by
    have hc0 := pickM_bd l 0 4 (by omega)
    have hpar : ∀ p ∈ paras0 l, 1 ≤ p.length ∧ p.length ≤ 40 ∧ ∀ w ∈ p, OKWd w ∧ w.note = 0 := fun p hp => by
      obtain ⟨j, _, rfl⟩ := List.mem_map.1 hp
      exact part_vt (pickM_bd l (2 + j) 1000000 (by omega)).1 (by omega)
    have hlen : (paras0 l).length = (pickM l 0 4).toNat + 1 := by simp [paras0]
    refine ⟨⟨?_, Nat.zero_le _, fun p hp => ?_, fun p hp w hw => ((hpar p hp).2.2 w hw).1, (fun p hp => by cases hp), ?_⟩, Nat.le_refl _⟩
    · show 1 ≤ (paras0 l).length ∧ (paras0 l).length ≤ 4
      omega
    · have hp' : p ∈ paras0 l := by
        have : p ∈ paras0 l ++ [] := hp
        simpa using this
      have := hpar p hp'
      omega
    · exact nts_none fun w hw => by
        obtain ⟨p, hp, hw⟩ := List.mem_flatten.1 hw
        exact ((hpar p hp).2.2 w hw).2
  | c + 1, hc => by
    obtain ⟨h1, h2⟩ := textN_vt l c (by omega)
    rw [textN_succ]
    obtain ⟨h3, h4⟩ := noteStep_vt h1 (by omega) (pickM_bd l (6 + c) 1000000 (by omega)).1
    exact ⟨h3, by omega⟩
theorem textM_vt (l : List Int) : VT (textM l) := by
  have hc1 := pickM_bd l 1 4 (by omega)
  exact (textN_vt l _ (by omega)).1
end Go.Proofs.YtocoinkhbjlbhaaDoor
end

section
namespace Go.Proofs.YtocoinkhbjlbhaaDoor
def ordM : List Int → Int → Int → Option Int
  | [], next, _ => some next
  | n :: r, next, k => if n ≠ next ∨ k ≤ n then none else ordM r (next + 1) k
def refs (body : List Line) : List Int := body.flatMap (·.notes)
def idxM {α : Type} (p : α → Bool) : List α → Int → Int
  | [], _ => -1
  | x :: r, i => if p x then i else idxM p r (i + 1)
theorem idxM_drop {α : Type} (p : α → Bool) (l : List α) (k : Nat) (hk : k < l.length) (i : Int) : idxM p (l.drop k) i = if p l[k] then i else idxM p (l.drop (k + 1)) (i + 1) := by
  rw [List.drop_eq_getElem_cons hk, idxM]
theorem idxM_any {α : Type} (p : α → Bool) : ∀ (l : List α) (i : Int), 0 ≤ i → (0 ≤ idxM p l i ↔ l.any p = true)
  | [], i, _ => by simp [idxM]
  | x :: r, i, h => by
    simp only [idxM, List.any_cons, Bool.or_eq_true]
    split
    · rename_i hp; simp [hp, h]
    · rename_i hp; rw [idxM_any p r (i + 1) (by omega)]; simp [hp]
def chkM (body : List Line) (notes : List (List Line)) (h : Int) : Int :=
  if h < 4 ∨ 100 < h then 5
  else if notes.any (fun x => decide ((x.length : Int) = 0)) then 1
  else match ordM (refs body) 0 notes.length with
    | none => 12
    | some n => if n < notes.length then 3 else 0
theorem refs_drop (body : List Line) (k : Nat) (hk : k < body.length) : refs (body.drop k) = body[k].notes ++ refs (body.drop (k + 1)) := by
  rw [List.drop_eq_getElem_cons hk, refs, List.flatMap_cons]
  rfl
theorem ordM_drop (l : List Int) (j : Nat) (hj : j < l.length) (r : List Int) (next k : Int) : ordM (l.drop j ++ r) next k = if l[j] ≠ next ∨ k ≤ l[j] then none else ordM (l.drop (j + 1) ++ r) (next + 1) k := by
  rw [List.drop_eq_getElem_cons hj, List.cons_append, ordM]
def fitsB (h : Int) (x : Line) (n s q : Int) : Bool :=
  if x.notes = [] then decide (0 < h - n - s - min s 1) else decide (s = q) && decide (3 - min s 1 ≤ h - n - s - min s 1)
def noteAt (notes : List (List Line)) (i : Int) : List Line := (notes[i.toNat]?).getD []
def growM (h n s q : Int) : Int := if 0 < q - s then s + min (q - s) (h - n - s - min s 1 - 1 + min s 1) else s
def fillM (h : Int) (notes : List (List Line)) : List Line → Int → List Line → Int → Int × List Line × Int
  | [], n, q, s => (n, q, s)
  | x :: r, n, q, s =>
    if fitsB h x n s q.length then fillM h notes r (n + 1) (q ++ x.notes.flatMap (noteAt notes)) (growM h (n + 1) s (q ++ x.notes.flatMap (noteAt notes)).length)
    else (n, q, s)
def setM (h : Int) (notes : List (List Line)) : Nat → List Line → List Line → List Pg
  | 0, _, _ => []
  | f + 1, body, q =>
    if body.isEmpty && q.isEmpty then []
    else
      let r := fillM h notes body 0 q (min q.length (h - 1))
      ⟨0, 0, 0, 0, body.take r.1.toNat, r.2.1.take r.2.2.toNat⟩ :: setM h notes f (body.drop r.1.toNat) (r.2.1.drop r.2.2.toNat)
def sumR (notes : List (List Line)) (body : List Line) : Nat := ((refs body).flatMap (noteAt notes)).length
def setAll (h : Int) (body : List Line) (notes : List (List Line)) : List Pg := setM h notes (body.length + sumR notes body + 1) body []
theorem sumR_drop (notes : List (List Line)) (body : List Line) (k : Nat) (hk : k < body.length) : sumR notes (body.drop k) = (body[k].notes.flatMap (noteAt notes)).length + sumR notes (body.drop (k + 1)) := by
  unfold sumR
  rw [refs_drop body k hk, List.flatMap_append, List.length_append]
theorem ordM_range : ∀ (l : List Int) (next k r : Int), ordM l next k = some r → 0 ≤ next → ∀ x ∈ l, 0 ≤ x ∧ x < k
  | [], _, _, _, _, _, x, hx => by cases hx
  | n :: l, next, k, r, h, h0, x, hx => by
    simp only [ordM] at h
    split at h
    · cases h
    · rename_i hn
      have h1 : n = next := by
        apply Classical.byContradiction
        intro hc; exact hn (.inl hc)
      have h2 : ¬ k ≤ n := fun hc => hn (.inr hc)
      rcases List.mem_cons.1 hx with rfl | hx
      · omega
      · exact ordM_range l (next + 1) k r h (by omega) x hx
theorem chk_ok {body : List Line} {notes : List (List Line)} {h : Int} (hc : chkM body notes h = 0) : 4 ≤ h ∧ h ≤ 100 ∧ (∀ x ∈ notes, x ≠ []) ∧ ordM (refs body) 0 notes.length = some (notes.length : Int) := by
  unfold chkM at hc
  split at hc
  · cases hc
  rename_i h1
  split at hc
  · cases hc
  rename_i h2
  split at hc
  · cases hc
  rename_i n hn
  split at hc
  · cases hc
  rename_i h3
  refine ⟨by omega, by omega, fun x hx he => h2 (List.any_eq_true.2 ⟨x, hx, by simp [he]⟩), ?_⟩
  have h4 : ∀ (l : List Int) (next k r : Int), ordM l next k = some r → next ≤ k → r ≤ k := by
    intro l
    induction l with
    | nil => intro next k r h hk; simp [ordM] at h; omega
    | cons a l ih =>
      intro next k r h hk
      simp only [ordM] at h
      split at h
      · cases h
      · rename_i hna
        have h5 : a = next := by
          apply Classical.byContradiction
          intro hc; exact hna (.inl hc)
        have h6 : ¬ k ≤ a := fun hc => hna (.inr hc)
        exact ih (next + 1) k r h (by omega)
  have h7 := h4 _ _ _ _ hn (by omega)
  rw [hn, show n = (notes.length : Int) by omega]
theorem growM_bd (h n s q : Int) (h1 : 0 ≤ s) (h2 : s ≤ q) (h3 : n + s + min s 1 ≤ h) (h4 : s = 0 → 0 < q → n + 2 ≤ h) :
    s ≤ growM h n s q ∧ growM h n s q ≤ q ∧ n + growM h n s q + min (growM h n s q) 1 ≤ h ∧ (growM h n s q = 0 → q = 0) := by
  unfold growM
  split
  · refine ⟨by omega, by omega, by omega, by omega⟩
  · refine ⟨by omega, by omega, by omega, by omega⟩
theorem mem_refs {body : List Line} {k : Nat} (hk : k < body.length) {i : Int} (hi : i ∈ body[k].notes) : i ∈ refs body :=
  List.mem_flatMap.2 ⟨body[k], List.getElem_mem hk, hi⟩
theorem refs_sub {body : List Line} {k : Nat} {i : Int} (h : i ∈ refs (body.drop k)) : i ∈ refs body := by
  obtain ⟨x, hx, hi⟩ := List.mem_flatMap.1 h
  exact List.mem_flatMap.2 ⟨x, List.mem_of_mem_drop hx, hi⟩
theorem flat_take {α β : Type} (f : α → List β) (L : List α) (j : Nat) (hj : j < L.length) : (L.take (j + 1)).flatMap f = (L.take j).flatMap f ++ f L[j] := by
  rw [List.take_succ_eq_append_getElem hj, List.flatMap_append, List.flatMap_singleton]
theorem flat_take_le {α β : Type} (f : α → List β) (L : List α) (j : Nat) : ((L.take j).flatMap f).length ≤ (L.flatMap f).length := by
  have : (L.flatMap f).length = ((L.take j).flatMap f).length + ((L.drop j).flatMap f).length := by
    rw [← List.length_append, ← List.flatMap_append, List.take_append_drop]
  omega
theorem noteAt_get {notes : List (List Line)} {i : Int} (h : i.toNat < notes.length) : noteAt notes i = notes[i.toNat] := by
  simp [noteAt, h]
theorem fits_bd {h n s q : Int} {x : Line} (hb : fitsB h x n s q = true) (h0 : 0 ≤ s) (_hs0 : s = 0 → q = 0) : n + 1 + s + min s 1 ≤ h ∧ (x.notes = [] ∨ n + 3 + s ≤ h) := by
  unfold fitsB at hb
  split at hb
  · rename_i hx
    have := of_decide_eq_true hb
    exact ⟨by omega, .inl hx⟩
  · simp only [Bool.and_eq_true, decide_eq_true_eq] at hb
    exact ⟨by omega, .inr (by omega)⟩
theorem fits_first {h : Int} (x : Line) (hh : 4 ≤ h) : fitsB h x 0 0 0 = true := by
  unfold fitsB
  split
  · exact decide_eq_true (by omega)
  · have : (3 - min (0 : Int) 1 ≤ h - 0 - 0 - min 0 1) := by omega
    simpa using this
end Go.Proofs.YtocoinkhbjlbhaaDoor
end

section
namespace Go.Proofs.YtocoinkhbjlbhaaDoor
open Go Go.RowKit
theorem checkL_c (M : Mut) (v : Value) (l : List Line) (w : World) (hs : SlOf eLine M w v l) :
    CallsV Tryd.prog 71 [v] w (fun u w' => u = .bool (decide ((l.length : Int) = 0)) ∧ w' = w) := by
  refine callsV_of_run Tryd.func71 rfl Tryd.ntmps71 (Nat.le_of_ble_eq_true rfl) ?_
  (repeat (first | refine run_seq ?_ | refine run_region_l ?_ | refine rl_nil ?_ | refine rl_step (by decide) (op_move rfl ?_) | refine rl_step (by decide) (op_assign rfl ?_) | fail))
  refine rl_step (by decide) (op_len uL rfl hs ?_)
  (repeat (first | refine rl_nil ?_ | refine rl_step (by decide) (op_assign rfl ?_) | refine rl_step (by decide) (op_eql rfl rfl ?_) | fail))
  refine run_ret1 Tryd.func71 rfl rfl ?_
  exact ⟨rfl, rfl⟩
theorem indexL_c (M : Mut) (v : Value) (l : List (List Line)) (w : World) (hs : SlOf (eSl eLine) M w v l) :
    CallsV Tryd.prog 88 [v, .func (.func 71) #[] #[]] w (fun u w' => u = .int .i64 (idxM (fun x => decide ((x.length : Int) = 0)) l 0) ∧ w' = w) := by
  have hle := hs.le
  refine callsV_of_run Tryd.func88 rfl Tryd.ntmps88 (Nat.le_of_ble_eq_true rfl) ?_
  (repeat (first | refine run_seq ?_ | refine run_region_l ?_ | refine rl_nil ?_ | refine rl_step (by decide) (op_move rfl ?_) | refine rl_step (by decide) (op_assign rfl ?_) | fail))
  refine rl_step (by decide) (op_len uLL rfl hs ?_)
  (repeat (first | refine rl_nil ?_ | refine rl_step (by decide) (op_move rfl ?_) | refine run_block ?_ | fail))
  refine (run_loop (α := Nat) (fun k => [(0, v), (1, .func (.func 71) #[] #[]), (7, .int .i64 l.length), (8, .int .i64 k)])
    (fun k w' => k ≤ l.length ∧ w' = w ∧ idxM (fun x => decide ((x.length : Int) = 0)) (l.drop k) k = idxM (fun x => decide ((x.length : Int) = 0)) l 0) (fun k => l.length - k) 0 ⟨Nat.zero_le _, rfl, rfl⟩ ?_).sub (by repeat (first | exact trivial | refine ⟨rfl, ?_⟩))
  rintro k w' ⟨hk, rfl, hI⟩ ih
  (repeat (first | refine run_seq ?_ | refine run_region_l ?_ | refine rl_nil ?_ | refine rl_step (by decide) (op_lss rfl rfl ?_) | fail))
  refine run_if rfl (fun hlt => ?_) (fun hlt => ?_)
  · have hk' : k < l.length := by omega
    have hstep := idxM_drop (fun x : List Line => decide ((x.length : Int) = 0)) l k hk' k
    (repeat (first | refine run_seq ?_ | refine run_region_l ?_ | refine rl_nil ?_ | refine rl_step (by decide) (op_move rfl ?_) | refine rl_step (by decide) (op_assign rfl ?_) | refine run_block ?_ | refine run_skip ?_ | fail))
    refine rl_step (by decide) (op_indexAddr uLL teSL rfl rfl hs (by omega) ?_)
    intro ad hn he
    (repeat (first | refine run_seq ?_ | fail))
    refine rl_step (by decide) (op_load teSL rfl he ?_)
    intro u hu
    rw [eSl_V] at hu
    refine rl_step (by decide) (op_callv (cap := []) ent71 rfl rfl (checkL_c M _ _ _ hu) ?_)
    rintro r w1 ⟨rfl, rfl⟩
    (repeat (first | refine rl_nil ?_ | fail))
    simp only [Int.toNat_natCast]
    refine run_if rfl (fun h => ?_) (fun h => ?_)
    · (repeat (first | refine run_seq ?_ | refine run_region_l ?_ | refine rl_nil ?_ | refine rl_step (by decide) (op_move rfl ?_) | refine rl_step (by decide) (op_assign rfl ?_) | fail))
      refine run_ret1 Tryd.func88 rfl rfl ?_
      refine ⟨?_, rfl⟩
      rw [← hI, hstep, if_pos (by simpa using h)]
    · (repeat (first | refine run_region_l ?_ | refine rl_nil ?_ | refine rl_step (by decide) (op_move rfl ?_) | refine run_inBlock ?_ | refine run_skip ?_ | refine rl_step (by decide) (op_add rfl rfl (by omega) ?_) | fail))
      refine (ih (k + 1) _ ⟨by omega, rfl, ?_⟩ (by omega)).sub (by repeat (first | exact trivial | refine ⟨rfl, ?_⟩))
      rw [← hI, hstep, if_neg (by simpa using h)]
      rfl
  · (repeat (first | refine run_seq ?_ | refine run_region_l ?_ | refine rl_nil ?_ | refine rl_step (by decide) (op_assign rfl ?_) | refine run_exit rfl ?_ | fail))
    refine run_ret1 Tryd.func88 rfl rfl ?_
    refine ⟨?_, rfl⟩
    rw [← hI, List.drop_eq_nil_of_le (by omega)]
    rfl
theorem containsL_c (M : Mut) (v : Value) (l : List (List Line)) (w : World) (hs : SlOf (eSl eLine) M w v l) :
    CallsV Tryd.prog 70 [v, .func (.func 71) #[] #[]] w (fun u w' => u = .bool (l.any (fun x => decide ((x.length : Int) = 0))) ∧ w' = w) := by
  have hle := hs.le
  refine callsV_of_run Tryd.func70 rfl Tryd.ntmps70 (Nat.le_of_ble_eq_true rfl) ?_
  (repeat (first | refine run_seq ?_ | refine run_region_l ?_ | refine rl_nil ?_ | refine rl_step (by decide) (op_move rfl ?_) | refine rl_step (by decide) (op_assign rfl ?_) | fail))
  refine rl_step (by decide) (op_call ent88 rfl (indexL_c M _ _ _ hs) ?_)
  rintro r w1 ⟨rfl, rfl⟩
  (repeat (first | refine rl_nil ?_ | refine rl_step (by decide) (op_assign rfl ?_) | refine rl_step (by decide) (op_geq rfl rfl ?_) | fail))
  refine run_ret1 Tryd.func70 rfl rfl ?_
  refine ⟨?_, rfl⟩
  congr 1
  rw [Bool.eq_iff_iff, decide_eq_true_eq]
  exact idxM_any _ l 0 (by omega)
theorem check_c (M : Mut) (vb vn : Value) (body : List Line) (notes : List (List Line)) (h : Int) (w : World) (hm : MB M w) (hb : SlOf eLine M w vb body) (hn : SlOf (eSl eLine) M w vn notes) :
    CallsV Tryd.prog 42 [vb, vn, .int .i64 h] w (fun u w' => u = .int .i64 (chkM body notes h) ∧ Below w.heap.size w w') := by
  have hr := Rn.refl hm
  have hle := hb.le
  have hle2 := hn.le
  unfold chkM
  refine callsV_of_run Tryd.func42 rfl Tryd.ntmps42 (Nat.le_of_ble_eq_true rfl) ?_
  (repeat (first | refine run_seq ?_ | refine run_region_l ?_ | refine rl_nil ?_ | refine rl_step (by decide) (op_move rfl ?_) | refine rl_step (by decide) (op_assign rfl ?_) | refine run_block ?_ | refine rl_step (by decide) (op_lss rfl rfl ?_) | fail))
  refine run_if rfl (fun h1 => ?_) (fun h1 => ?_)
  · (repeat (first | refine run_skip ?_ | fail))
    refine run_yes rfl h1 ?_
    (repeat (first | refine run_seq ?_ | refine run_region_l ?_ | refine rl_nil ?_ | refine rl_step (by decide) (op_assign rfl ?_) | fail))
    refine run_ret1 Tryd.func42 rfl rfl ?_
    exact ⟨by rw [if_pos (Or.inl h1)], Below.refl _ _⟩
  (repeat (first | refine run_region_l ?_ | refine rl_nil ?_ | refine rl_step (by decide) (op_move rfl ?_) | refine rl_step (by decide) (op_assign rfl ?_) | refine rl_step (by decide) (op_gtr rfl rfl ?_) | fail))
  refine run_if rfl (fun h2 => ?_) (fun h2 => ?_)
  · (repeat (first | refine run_seq ?_ | refine run_region_l ?_ | refine rl_nil ?_ | refine rl_step (by decide) (op_assign rfl ?_) | fail))
    refine run_ret1 Tryd.func42 rfl rfl ?_
    exact ⟨by rw [if_pos (Or.inr h2)], Below.refl _ _⟩
  rw [if_neg (by omega)]
  (repeat (first | refine run_seq ?_ | refine run_region_l ?_ | refine rl_step (by decide) (op_move rfl ?_) | fail))
  refine rl_step (by decide) (op_call ent70 rfl (containsL_c M _ _ _ hn) ?_)
  rintro r w1 ⟨rfl, rfl⟩
  (repeat (first | refine rl_nil ?_ | refine rl_step (by decide) (op_assign rfl ?_) | fail))
  refine run_ifb rfl (fun h3 => ?_) (fun h3 => ?_)
  · (repeat (first | refine run_seq ?_ | refine run_region_l ?_ | refine rl_nil ?_ | refine rl_step (by decide) (op_assign rfl ?_) | fail))
    refine run_ret1 Tryd.func42 rfl rfl ?_
    exact ⟨by rw [if_pos h3], Below.refl _ _⟩
  rw [h3]
  simp only [Bool.false_eq_true, if_false]
  (repeat (first | refine run_seq ?_ | refine run_region_l ?_ | refine rl_nil ?_ | refine rl_step (by decide) (op_move rfl ?_) | refine rl_step (by decide) (op_assign rfl ?_) | refine run_inBlock ?_ | refine run_skip ?_ | fail))
  refine rl_step (by decide) (op_len uL rfl hb ?_)
  (repeat (first | refine rl_nil ?_ | refine rl_step (by decide) (op_move rfl ?_) | refine run_block ?_ | fail))
  refine (run_loop (α := Nat × Int × Mut) (fun x => [(0, vb), (1, vn), (7, .int .i64 x.2.1), (20, vb), (21, .int .i64 body.length), (22, .int .i64 x.1)])
    (fun x w' => x.1 ≤ body.length ∧ 0 ≤ x.2.1 ∧ x.2.1 ≤ notes.length ∧ Rn M w1 x.2.2 w' ∧ SlOf eLine x.2.2 w' vb body ∧ SlOf (eSl eLine) x.2.2 w' vn notes ∧ ordM (refs (body.drop x.1)) x.2.1 notes.length = ordM (refs body) 0 notes.length)
    (fun x => body.length - x.1) (0, 0, M) ⟨Nat.zero_le _, Int.le_refl _, by simp, hr, hb, hn, rfl⟩ ?_).sub (by repeat (first | exact trivial | refine ⟨rfl, ?_⟩))
  clear hb hn hr
  rintro ⟨k, next, M1⟩ w2 ⟨hk, hn0, hn1, hr, hb, hn, hI⟩ ih
  simp only at hk hn0 hn1 hr hb hn hI ih
  (repeat (first | refine run_seq ?_ | refine run_region_l ?_ | refine rl_nil ?_ | refine rl_step (by decide) (op_lss rfl rfl ?_) | fail))
  refine run_if rfl (fun hlt => ?_) (fun hlt => ?_)
  · have hk' : k < body.length := by omega
    rw [refs_drop body k hk'] at hI
    (repeat (first | refine run_seq ?_ | refine run_region_l ?_ | refine run_block ?_ | refine run_skip ?_ | fail))
    refine rl_step (by decide) (op_indexAddr uL teL rfl rfl hb (by omega) ?_)
    intro ad hn' he
    refine rl_step (by decide) (op_load teL rfl he ?_)
    intro u hu
    rw [eLine_V] at hu
    simp only [Int.toNat_natCast] at hu
    refine rl_step (by decide) (op_alloc 9 hr tdL ?_)
    intro b w3 M2 hbge hbox hs
    replace hb := hb.mono hs.x
    replace hn := hn.mono hs.x
    obtain ⟨g, n, rfl, hu1, hu2, hu3, hu4⟩ := hu
    replace hu3 := hu3.mono hs.x
    replace hu4 := hu4.mono hs.x
    replace hr := hr.up hs
    clear hs
    refine rl_step0 (op_store tdL rfl rfl rfl (eLine.one (eLine_R.2 ⟨g, n, rfl, hu1, hu2, hu3, hu4⟩)) rfl hr hbge hbox (Nat.le_of_ble_eq_true rfl) ?_)
    intro w4 hbox hs
    replace hb := hb.mono hs.x
    replace hn := hn.mono hs.x
    replace hu4 := hu4.mono hs.x
    replace hr := hr.st hs
    clear hs hu3
    (repeat (first | refine run_seq ?_ | refine run_region_l ?_ | refine rl_nil ?_ | fail))
    refine rl_step (by decide) (op_fieldBox fdL3 rfl ?_)
    refine rl_step (by decide) (op_load1 tdSI rfl hbox rfl ?_)
    refine rl_step (by decide) (op_len uI rfl hu4 ?_)
    (repeat (first | refine rl_nil ?_ | refine rl_step (by decide) (op_move rfl ?_) | refine run_block ?_ | fail))
    refine (run_loop (α := Nat × Int) (fun x => [(0, vb), (1, vn), (7, .int .i64 x.2), (20, vb), (21, .int .i64 body.length), (22, .int .i64 k), (27, n), (28, .int .i64 body[k].notes.length), (29, .int .i64 x.1)])
      (fun x w' => x.1 ≤ body[k].notes.length ∧ 0 ≤ x.2 ∧ x.2 ≤ notes.length ∧ w' = w4 ∧ ordM (body[k].notes.drop x.1 ++ refs (body.drop (k + 1))) x.2 notes.length = ordM (refs body) 0 notes.length)
      (fun x => body[k].notes.length - x.1) (0, next) ⟨Nat.zero_le _, hn0, hn1, rfl, hI⟩ ?_).sub (by repeat (first | exact trivial | refine ⟨rfl, ?_⟩))
    clear hI hn0 hn1
    have hle3 := hu4.le
    rintro ⟨j, nx⟩ w5 ⟨hj, hn0, hn1, rfl, hI⟩ ih2
    simp only at hj hn0 hn1 hI ih2
    (repeat (first | refine run_seq ?_ | refine run_region_l ?_ | refine rl_nil ?_ | refine rl_step (by decide) (op_lss rfl rfl ?_) | fail))
    refine run_if rfl (fun hlt2 => ?_) (fun hlt2 => ?_)
    · have hj' : j < body[k].notes.length := by omega
      rw [ordM_drop _ j hj'] at hI
      (repeat (first | refine run_seq ?_ | refine run_region_l ?_ | refine run_block ?_ | refine run_skip ?_ | fail))
      refine rl_step (by decide) (op_indexAddr uI teI rfl rfl hu4 (by omega) ?_)
      intro ad2 hn2 he2
      refine rl_step (by decide) (op_load teI rfl he2 ?_)
      intro u hu
      rw [eI_V] at hu
      obtain ⟨rfl, hu5⟩ := hu
      simp only [Int.toNat_natCast]
      (repeat (first | refine run_seq ?_ | refine run_region_l ?_ | refine rl_nil ?_ | refine rl_step (by decide) (op_move rfl ?_) | refine rl_step (by decide) (op_assign rfl ?_) | refine rl_step (by decide) (op_neq rfl rfl ?_) | fail))
      refine rl_part 36 rfl (fun h5 => ?_) (fun h5 => ?_)
      · (repeat (first | refine run_seq ?_ | refine run_region_l ?_ | refine rl_nil ?_ | refine rl_step (by decide) (op_assign rfl ?_) | refine run_true rfl ?_ | refine rl_no rfl rfl rfl (by decide) ?_ | refine rl_step (by decide) (op_pick_t rfl rfl ?_) | fail))
        refine run_ret1 Tryd.func42 rfl rfl ?_
        rw [if_pos (Or.inl h5)] at hI
        rw [← hI]
        exact ⟨rfl, hr.bel⟩
      · (repeat (first | refine rl_step (by decide) (op_move rfl ?_) | refine rl_yes rfl rfl ?_ | fail))
        refine rl_step (by decide) (op_len uLL rfl hn ?_)
        (repeat (first | refine rl_nil ?_ | refine rl_yes rfl rfl ?_ | refine rl_step (by decide) (op_pick_f rfl rfl ?_) | refine rl_step (by decide) (op_geq rfl rfl ?_) | fail))
        refine run_if rfl (fun h6 => ?_) (fun h6 => ?_)
        · (repeat (first | refine run_seq ?_ | refine run_region_l ?_ | refine rl_nil ?_ | refine rl_step (by decide) (op_assign rfl ?_) | fail))
          refine run_ret1 Tryd.func42 rfl rfl ?_
          rw [if_pos (Or.inr h6)] at hI
          rw [← hI]
          exact ⟨rfl, hr.bel⟩
        · rw [if_neg (by intro h; rcases h with h | h; exact h5 h; exact h6 h)] at hI
          (repeat (first | refine run_region_l ?_ | refine rl_nil ?_ | refine rl_step (by decide) (op_move rfl ?_) | refine rl_step (by decide) (op_assign rfl ?_) | refine run_inBlock ?_ | refine run_skip ?_ | refine rl_step (by decide) (op_add rfl rfl (by omega) ?_) | fail))
          exact (ih2 (j + 1, nx + 1) _ ⟨by show j + 1 ≤ _; omega, by show 0 ≤ nx + 1; omega, by show nx + 1 ≤ _; omega, rfl, hI⟩ (by show _ - (j + 1) < _ - j; omega)).sub (by repeat (first | exact trivial | refine ⟨rfl, ?_⟩))
    · rw [List.drop_eq_nil_of_le (by omega), List.nil_append] at hI
      (repeat (first | refine run_region_l ?_ | refine rl_nil ?_ | refine rl_step (by decide) (op_move rfl ?_) | refine run_inBlock ?_ | refine run_exit rfl ?_ | refine rl_step (by decide) (op_add rfl rfl (by omega) ?_) | fail))
      exact (ih (k + 1, nx, _) _ ⟨by show k + 1 ≤ _; omega, hn0, hn1, hr, hb, hn, hI⟩ (by show _ - (k + 1) < _ - k; omega)).sub (by repeat (first | exact trivial | refine ⟨rfl, ?_⟩))
  · rw [List.drop_eq_nil_of_le (by omega)] at hI
    simp only [refs, List.flatMap_nil, ordM] at hI
    rw [show ordM (refs body) 0 notes.length = some next from hI.symm]
    (repeat (first | refine run_seq ?_ | refine run_region_l ?_ | refine rl_step (by decide) (op_move rfl ?_) | refine run_exit rfl ?_ | fail))
    refine rl_step (by decide) (op_len uLL rfl hn ?_)
    (repeat (first | refine rl_nil ?_ | refine rl_step (by decide) (op_lss rfl rfl ?_) | fail))
    refine run_if rfl (fun h6 => ?_) (fun h6 => ?_)
    · (repeat (first | refine run_seq ?_ | refine run_region_l ?_ | refine rl_nil ?_ | refine rl_step (by decide) (op_assign rfl ?_) | fail))
      refine run_ret1 Tryd.func42 rfl rfl ?_
      exact ⟨by simp only [if_pos h6], hr.bel⟩
    · (repeat (first | refine run_seq ?_ | refine run_region_l ?_ | refine rl_nil ?_ | refine rl_step (by decide) (op_assign rfl ?_) | refine run_skip ?_ | fail))
      refine run_ret1 Tryd.func42 rfl rfl ?_
      exact ⟨by simp only [if_neg h6], hr.bel⟩
end Go.Proofs.YtocoinkhbjlbhaaDoor
end

section
namespace Go.Proofs.YtocoinkhbjlbhaaDoor
open Go Go.RowKit
theorem cloneI_c (M : Mut) (v : Value) (l : List Int) (w : World) (hm : MB M w) (hs : SlOf eI M w v l) :
    CallsV Tryd.prog 72 [v] w (fun u w' => Below w.heap.size w w' ∧ SlOf eI M w' u l) := by
  have hr := Rn.refl hm
  have hby := hs.bytes
  refine callsV_of_run Tryd.func72 rfl Tryd.ntmps72 (Nat.le_of_ble_eq_true rfl) ?_
  (repeat (first | refine run_seq ?_ | refine run_region_l ?_ | refine rl_nil ?_ | refine rl_step (by decide) (op_move rfl ?_) | refine rl_step (by decide) (op_assign rfl ?_) | fail))
  refine rl_step (by decide) (op_eqlNil uI rfl rfl hs ?_)
  intro b hb
  (repeat (first | refine rl_nil ?_ | fail))
  refine run_ifb rfl (fun h => ?_) (fun h => ?_)
  · (repeat (first | refine run_seq ?_ | refine run_region_l ?_ | refine rl_nil ?_ | refine rl_step (by decide) (op_assign rfl ?_) | fail))
    refine run_ret1 Tryd.func72 rfl rfl ?_
    rw [hb h]
    exact ⟨Below.refl _ _, SlOf.nil _ _ _⟩
  · (repeat (first | refine run_seq ?_ | refine run_region_l ?_ | refine run_skip ?_ | fail))
    refine rl_step (by decide) (op_buildSlice (E := eI) (n := 0) (parts := []) (vs := []) (l := []) uI teI hr rfl rfl trivial rfl ⟨by decide, by decide⟩ ?_)
    intro u w1 hu1 hu2 hb1
    have hst := hr.step hb1
    replace hs := hs.mono hst.x
    replace hr := hr.st hst
    (repeat (first | refine rl_step (by decide) (op_move rfl ?_) | fail))
    have hg : Grow w.heap.size M w1 u 0 1 1 3 := ⟨.inl hu2⟩
    refine rl_step (by decide) (op_append (E := eI) (tag := 1) uI teI rfl rfl hr hu1 hg hs (by simpa using hby) ?_)
    intro u' w2 M2 hu' hg' hst2
    replace hr := hr.st hst2
    (repeat (first | refine rl_nil ?_ | refine rl_step (by decide) (op_assign rfl ?_) | fail))
    refine run_ret1 Tryd.func72 rfl rfl ?_
    exact ⟨hr.bel, hu'.mono hr.fin⟩
theorem clone_c (M : Mut) (v : Value) (l : List Line) (w : World) (hm : MB M w) (hs : SlOf eLine M w v l) :
    CallsV Tryd.prog 45 [v] w (fun u w' => Below w.heap.size w w' ∧ SlOf eLine M w' u l) := by
  have hr := Rn.refl hm
  have hby := hs.bytes
  have hle := hs.le
  refine callsV_of_run Tryd.func45 rfl Tryd.ntmps45 (Nat.le_of_ble_eq_true rfl) ?_
  (repeat (first | refine run_seq ?_ | refine run_region_l ?_ | refine rl_nil ?_ | refine rl_step (by decide) (op_move rfl ?_) | refine rl_step (by decide) (op_assign rfl ?_) | fail))
  refine rl_step (by decide) (op_len uL rfl hs ?_)
  (repeat (first | refine rl_nil ?_ | refine rl_step (by decide) (op_eql rfl rfl ?_) | fail))
  refine run_if rfl (fun h => ?_) (fun h => ?_)
  · (repeat (first | refine run_seq ?_ | refine run_region_l ?_ | refine rl_nil ?_ | refine rl_step (by decide) (op_assign rfl ?_) | fail))
    refine run_ret1 Tryd.func45 rfl rfl ?_
    rw [List.eq_nil_of_length_eq_zero (l := l) (by omega)]
    exact ⟨Below.refl _ _, SlOf.nil _ _ _⟩
  · (repeat (first | refine run_seq ?_ | refine run_region_l ?_ | refine rl_step (by decide) (op_move rfl ?_) | refine run_skip ?_ | fail))
    refine rl_step (by decide) (op_len uL rfl hs ?_)
    refine rl_step (by decide) (op_make 3 uL tdL rfl rfl hr (by omega) (by rw [Nat.mul_comm]; exact hby) (by omega) ?_)
    intro b w1 M1 hB hbox hs1
    replace hs := hs.mono hs1.x
    replace hr := hr.up hs1
    simp only [Int.toNat_natCast] at hbox ⊢
    (repeat (first | refine run_seq ?_ | refine run_region_l ?_ | refine rl_nil ?_ | refine rl_step (by decide) (op_move rfl ?_) | refine rl_step (by decide) (op_assign rfl ?_) | fail))
    refine rl_step (by decide) (op_copy (E := eLine) uL teL rfl rfl hr hB hs hbox (by simp [madeCells]; rfl) ?_)
    intro w2 css hcss hbox hst
    replace hs := hs.mono hst.x
    replace hr := hr.st hst
    (repeat (first | refine run_seq ?_ | refine run_region_l ?_ | refine rl_nil ?_ | refine rl_step (by decide) (op_move rfl ?_) | fail))
    refine rl_step (by decide) (op_lenv uL rfl ?_)
    (repeat (first | refine rl_nil ?_ | refine rl_step (by decide) (op_move rfl ?_) | refine run_block ?_ | fail))
    clear hs1 hst
    refine (run_loop (α := Nat × Mut × List Value) (fun x => [(0, v), (3, .slice (some ⟨b, 0, none⟩) l.length l.length), (15, .int .i64 l.length), (16, .int .i64 x.1)])
      (fun x w' => x.1 ≤ l.length ∧ Rn M w x.2.1 w' ∧ SlOf eLine x.2.1 w' v l ∧ CSS eLine x.2.1 w' x.2.2 l ∧ Box x.2.1 w' b 3 x.2.2 42) (fun x => l.length - x.1) (0, M1, css) ⟨Nat.zero_le _, hr, hs, hcss, hbox⟩ ?_).sub (by repeat (first | exact trivial | refine ⟨rfl, ?_⟩))
    clear hr hs hcss hbox
    rintro ⟨k, M2, css⟩ w3 ⟨hk, hr, hs, hcss, hbox⟩ ih
    simp only at hk hr hs hcss hbox ih
    (repeat (first | refine run_seq ?_ | refine run_region_l ?_ | refine rl_nil ?_ | refine rl_step (by decide) (op_lss rfl rfl ?_) | fail))
    refine run_if rfl (fun hlt => ?_) (fun hlt => ?_)
    · have hk' : k < l.length := by omega
      (repeat (first | refine run_seq ?_ | refine run_region_l ?_ | refine rl_nil ?_ | refine rl_step (by decide) (op_move rfl ?_) | refine rl_step (by decide) (op_assign rfl ?_) | refine run_block ?_ | refine run_skip ?_ | fail))
      refine region_dr (M := M2) 16 6 [2, 3] mixed rfl (by kernel_rfl) (fun w1 hs1 => ?_)
      replace hs := hs.mono hs1.x
      replace hcss := hcss.mono hs1.x
      replace hr := hr.up hs1
      replace hbox := hbox.up hs1
      refine dr_cons (isv _) (by decide) (mono_isv _) (ob0 rfl fun M w hs => opg (op_move rfl ⟨_, UpM.refl _ _, rfl⟩)) ?_
      refine dr_cons (isv _) (by decide) (mono_isv _) (ob0 rfl fun M w hs => opg (op_move rfl ⟨_, UpM.refl _ _, rfl⟩)) ?_
      refine dr_cons (isv _) (by decide) (mono_isv _) (ob0 rfl fun M w hs => opg (op_move rfl ⟨_, UpM.refl _ _, rfl⟩)) ?_
      refine dr_cons (isv _) (by decide) (mono_isv _) (ob0 rfl fun M w hs => opg (op_move rfl ⟨_, UpM.refl _ _, rfl⟩)) ?_
      refine dr_cons (isv _) (by decide) (mono_isv _) (ob0 rfl fun M w hs => opg (op_move rfl ⟨_, UpM.refl _ _, rfl⟩)) ?_
      refine dr_cons (isv _) (by decide) (mono_isv _) (ob0 rfl fun M w hs => opg (op_move rfl ⟨_, UpM.refl _ _, rfl⟩)) ?_
      refine dr_cons (isPtr eLine l[k]) (by decide) (mono_isPtr _ _) (ob2 rfl fun M w' hs2 v1 h1 v2 h2 => ?_) ?_
      · cases h1; cases h2
        replace hs := hs.mono hs2.x
        refine opg (op_indexAddr uL teL rfl rfl hs (by omega) ?_)
        intro ad hn he
        exact ⟨_, UpM.refl _ _, ad, rfl, he⟩
      refine dr_cons (isPtr (eSl eI) l[k].gaps) (by decide) (mono_isPtr _ _) (ob1 rfl fun M w' hs2 v1 h1 => ?_) ?_
      · obtain ⟨ad, rfl, he⟩ := h1
        exact opg (op_fieldAddr fdL2 rfl ⟨_, UpM.refl _ _, _, rfl, he.line.2.2.1⟩)
      refine dr_cons (isSl eI l[k].gaps) (by decide) (mono_isSl _ _) (ob1 rfl fun M w' hs2 v1 h1 => ?_) ?_
      · obtain ⟨ad, rfl, he⟩ := h1
        exact opg (op_load teSI rfl he fun u hu => ⟨_, UpM.refl _ _, eSl_V.1 hu⟩)
      refine dr_cons (isSl eI l[k].gaps) (by decide) (mono_isSl _ _) (ob1 rfl fun M w' hs2 v1 h1 => ?_) ?_
      · exact opg (op_call ent72 rfl (cloneI_c M _ _ _ (hs2.mb hr.mb) h1) fun u w2 hu => ⟨_, UpM.of_below hu.1, hu.2⟩)
      refine dr_cons (isv _) (by decide) (mono_isv _) (ob0 rfl fun M w hs => opg (op_move rfl ⟨_, UpM.refl _ _, rfl⟩)) ?_
      refine dr_cons (isv _) (by decide) (mono_isv _) (ob0 rfl fun M w hs => opg (op_move rfl ⟨_, UpM.refl _ _, rfl⟩)) ?_
      refine dr_cons (isPtr eLine l[k]) (by decide) (mono_isPtr _ _) (ob2 rfl fun M w' hs2 v1 h1 v2 h2 => ?_) ?_
      · cases h1; cases h2
        replace hs := hs.mono hs2.x
        refine opg (op_indexAddr uL teL rfl rfl hs (by omega) ?_)
        intro ad hn he
        exact ⟨_, UpM.refl _ _, ad, rfl, he⟩
      refine dr_cons (isPtr (eSl eI) l[k].notes) (by decide) (mono_isPtr _ _) (ob1 rfl fun M w' hs2 v1 h1 => ?_) ?_
      · obtain ⟨ad, rfl, he⟩ := h1
        exact opg (op_fieldAddr fdL3 rfl ⟨_, UpM.refl _ _, _, rfl, he.line.2.2.2⟩)
      refine dr_cons (isSl eI l[k].notes) (by decide) (mono_isSl _ _) (ob1 rfl fun M w' hs2 v1 h1 => ?_) ?_
      · obtain ⟨ad, rfl, he⟩ := h1
        exact opg (op_load teSI rfl he fun u hu => ⟨_, UpM.refl _ _, eSl_V.1 hu⟩)
      refine dr_cons (isSl eI l[k].notes) (by decide) (mono_isSl _ _) (ob1 rfl fun M w' hs2 v1 h1 => ?_) ?_
      · exact opg (op_call ent72 rfl (cloneI_c M _ _ _ (hs2.mb hr.mb) h1) fun u w2 hu => ⟨_, UpM.of_below hu.1, hu.2⟩)
      refine dr_nil rfl (fun M3 w4 val hs2 hall => ?_)
      obtain ⟨h34, _, _, _, _, _, h28, _, _, _, _, _, h22, h21, h20, h19, _⟩ := hall
      have e22 : val 22 = _ := h22; have e21 : val 21 = _ := h21; have e20 : val 20 = _ := h20; have e19 : val 19 = _ := h19
      replace hs := hs.mono hs2.x
      replace hcss := hcss.mono hs2.x
      replace hr := hr.up hs2
      replace hbox := hbox.up hs2
      have hlen := hcss.len
      have hk4 : k * 4 + 4 ≤ css.length := by rw [hlen]; show k * 4 + 4 ≤ l.length * 4; omega
      refine RT.sub (fr' := [(0, v), (3, .slice (some ⟨b, 0, none⟩) l.length l.length), (15, .int .i64 l.length), (16, .int .i64 k), (34, val 34), (28, val 28), (22, val 22), (21, val 21), (20, val 20), (19, val 19)]) ?_ (by repeat (first | exact trivial | refine ⟨rfl, ?_⟩))
      rw [e22, e21, e20, e19]
      generalize val 34 = v34 at h34
      generalize val 28 = v28 at h28
      refine rt_one (i := 16) (by kernel_rfl) rfl (by decide) (op_indexBox uL tdL rfl rfl hbox (by show 0 ≤ (k : Int) ∧ (k : Int) < l.length; omega) ?_)
      refine rt_one (i := 17) (by kernel_rfl) rfl (by decide) (op_fieldBox fdL2 rfl ?_)
      obtain ⟨a28, c28, q28, _⟩ := SlOf.ex h28
      obtain ⟨a34, c34, q34, _⟩ := SlOf.ex h34
      refine rt_one0 (i := 18) (by kernel_rfl) rfl (op_store (c := [v28]) tdSI rfl rfl (by rw [q28]; rfl) (by rw [q28]; simp [Value.oneCell']) rfl hr hB hbox (by simp; omega) ?_)
      simp only [Int.toNat_natCast]
      intro w5 hbox hst
      replace hs := hs.mono hst.x
      replace hcss := hcss.mono hst.x
      replace h28 := h28.mono hst.x
      replace h34 := h34.mono hst.x
      replace hr := hr.st hst
      clear hst
      have hcss := hcss.update k hk' 2 [v28] l[k] (fun cs hR => line_gaps hR h28) (Nat.le_of_ble_eq_true rfl)
      rw [List.set_getElem_self, show k * eLine.sz + 2 = k * 4 + 2 from rfl] at hcss
      generalize splice css (k * 4 + 2) [v28] = css at hcss hbox
      have hlen := hcss.len
      have hk4 : k * 4 + 4 ≤ css.length := by rw [hlen]; show k * 4 + 4 ≤ l.length * 4; omega
      refine rt_one (i := 19) (by kernel_rfl) rfl (by decide) (op_indexBox uL tdL rfl rfl hbox (by show 0 ≤ (k : Int) ∧ (k : Int) < l.length; omega) ?_)
      refine rt_one (i := 20) (by kernel_rfl) rfl (by decide) (op_fieldBox fdL3 rfl ?_)
      refine rt_one0 (i := 21) (by kernel_rfl) rfl (op_store (c := [v34]) tdSI rfl rfl (by rw [q34]; rfl) (by rw [q34]; simp [Value.oneCell']) rfl hr hB hbox (by simp; omega) ?_)
      simp only [Int.toNat_natCast]
      intro w6 hbox hst
      replace hs := hs.mono hst.x
      replace hcss := hcss.mono hst.x
      replace h34 := h34.mono hst.x
      replace hr := hr.st hst
      clear hst
      have hcss := hcss.update k hk' 3 [v34] l[k] (fun cs hR => line_notes hR h34) (Nat.le_of_ble_eq_true rfl)
      rw [List.set_getElem_self, show k * eLine.sz + 3 = k * 4 + 3 from rfl] at hcss
      refine rt_nil (by kernel_rfl) ?_
      (repeat (first | refine run_region_l ?_ | refine rl_nil ?_ | refine rl_step (by decide) (op_move rfl ?_) | refine run_inBlock ?_ | refine rl_step (by decide) (op_add rfl rfl (by omega) ?_) | fail))
      exact (ih (k + 1, M3, _) _ ⟨by show k + 1 ≤ _; omega, hr, hs, hcss, hbox⟩ (by show _ - (k + 1) < _ - k; omega)).sub (by repeat (first | exact trivial | refine ⟨rfl, ?_⟩))
    · (repeat (first | refine run_seq ?_ | refine run_region_l ?_ | refine rl_nil ?_ | refine rl_step (by decide) (op_move rfl ?_) | refine rl_step (by decide) (op_assign rfl ?_) | refine run_exit rfl ?_ | fail))
      refine run_ret1 Tryd.func45 rfl rfl ?_
      obtain ⟨hsl, hst⟩ := hbox.freeze hcss hby hB
      exact ⟨hr.bel, hsl.mono (hr.st hst).fin⟩
end Go.Proofs.YtocoinkhbjlbhaaDoor
end

section
namespace Go.Proofs.YtocoinkhbjlbhaaDoor
open Go Go.RowKit
abbrev ptr (b : Nat) : Value := .pointer (some ⟨b, 0, none⟩)
theorem room_c (M : Mut) (w : World) (bh bl bs th tl ts : Nat) (h n s : Int) (hh : Box M w bh th [.int .i64 h] 3) (hl : Box M w bl tl [.int .i64 n] 3) (hs : Box M w bs ts [.int .i64 s] 3)
    (h1 : 0 ≤ h ∧ h ≤ 1000) (h2 : 0 ≤ n ∧ n ≤ 1000) (h3 : 0 ≤ s ∧ s ≤ 1000) :
    CallsV Tryd.prog 43 [ptr bh, ptr bl, ptr bs] w (fun u w' => u = .int .i64 (h - n - s - min s 1) ∧ w' = w) := by
  refine callsV_of_run Tryd.func43 rfl Tryd.ntmps43 (Nat.le_of_ble_eq_true rfl) ?_
  (repeat (first | refine run_seq ?_ | refine run_region_l ?_ | refine rl_nil ?_ | refine rl_step (by decide) (op_assign rfl ?_) | fail))
  refine rl_step (by decide) (op_load1 tdI rfl hh rfl ?_)
  refine rl_step (by decide) (op_load1 tdI rfl hl rfl ?_)
  (repeat (first | refine rl_step (by decide) (op_sub rfl rfl (by omega) ?_) | fail))
  refine rl_step (by decide) (op_load1 tdI rfl hs rfl ?_)
  (repeat (first | refine rl_step (by decide) (op_sub rfl rfl (by omega) ?_) | fail))
  refine rl_step (by decide) (op_load1 tdI rfl hs rfl ?_)
  (repeat (first | refine rl_nil ?_ | refine rl_step (by decide) (op_assign rfl ?_) | refine rl_step (by decide) (op_min rfl rfl ?_) | refine rl_step (by decide) (op_sub rfl rfl (by omega) ?_) | fail))
  refine run_ret1 Tryd.func43 rfl rfl ?_
  exact ⟨rfl, rfl⟩
structure Vars (M : Mut) (w : World) (bb bh bq bl bs br : Nat) (vb vq : Value) (h n s : Int) : Prop where
  body : Box M w bb 3 [vb] 33
  height : Box M w bh 5 [.int .i64 h] 3
  queue : Box M w bq 10 [vq] 33
  lines : Box M w bl 11 [.int .i64 n] 3
  shown : Box M w bs 12 [.int .i64 s] 3
  room : Box M w br 13 [.func (.func 43) #[] #[ptr bh, ptr bl, ptr bs]] 76
theorem Vars.up {M M' : Mut} {w w' : World} {bb bh bq bl bs br : Nat} {vb vq : Value} {h n s : Int} (k : Vars M w bb bh bq bl bs br vb vq h n s) (hs : UpM M w M' w') : Vars M' w' bb bh bq bl bs br vb vq h n s :=
  ⟨k.body.up hs, k.height.up hs, k.queue.up hs, k.lines.up hs, k.shown.up hs, k.room.up hs⟩
theorem tdF : TD Tryd.prog 76 1 8 false [.nilFunc] := TD.mk' (z := .nilFunc) (by kernel_rfl) Tryd.underlying76 rfl
theorem fits_c (M : Mut) (w : World) (bb bh bq bl bs br : Nat) (vb vq : Value) (h n s : Int) (body q : List Line) (hv : Vars M w bb bh bq bl bs br vb vq h n s) (hb : SlOf eLine M w vb body) (hq : SlOf eLine M w vq q)
    (h1 : 0 ≤ h ∧ h ≤ 1000) (h2 : 0 ≤ n ∧ n ≤ 1000) (h3 : 0 ≤ s ∧ s ≤ 1000) (hn : n ≤ body.length) :
    CallsV Tryd.prog 44 [ptr bl, ptr bb, ptr br, ptr bs, ptr bq] w (fun u w' => u = .bool (match body[n.toNat]? with | none => false | some x => fitsB h x n s q.length) ∧ Below w.heap.size w w') := by
  refine callsV_of_run Tryd.func44 rfl Tryd.ntmps44 (Nat.le_of_ble_eq_true rfl) ?_
  (repeat (first | refine run_seq ?_ | refine run_region_l ?_ | refine rl_nil ?_ | refine rl_step (by decide) (op_assign rfl ?_) | refine run_block ?_ | fail))
  refine rl_step (by decide) (op_load1 tdI rfl hv.lines rfl ?_)
  refine rl_step (by decide) (op_load1 tdSL rfl hv.body rfl ?_)
  refine rl_step (by decide) (op_len uL rfl hb ?_)
  (repeat (first | refine rl_nil ?_ | refine rl_step (by decide) (op_assign rfl ?_) | refine rl_step (by decide) (op_eql rfl rfl ?_) | fail))
  refine run_if rfl (fun hc => ?_) (fun hc => ?_)
  · (repeat (first | refine run_seq ?_ | refine run_region_l ?_ | refine rl_nil ?_ | refine rl_step (by decide) (op_assign rfl ?_) | fail))
    refine run_ret1 Tryd.func44 rfl rfl ?_
    rw [List.getElem?_eq_none (by omega)]
    exact ⟨rfl, Below.refl _ _⟩
  have hlt : n.toNat < body.length := by omega
  rw [List.getElem?_eq_getElem hlt]
  simp only [fitsB]
  (repeat (first | refine run_seq ?_ | refine run_region_l ?_ | fail))
  refine rl_step (by decide) (op_load1 tdSL rfl hv.body rfl ?_)
  refine rl_step (by decide) (op_load1 tdI rfl hv.lines rfl ?_)
  refine rl_step (by decide) (op_indexAddr uL teL rfl rfl hb (by omega) ?_)
  intro ad _ he
  refine rl_step (by decide) (op_fieldAddr fdL3 rfl ?_)
  refine rl_step (by decide) (op_load teSI rfl he.line.2.2.2 ?_)
  intro u hu
  rw [eSl_V] at hu
  refine rl_step (by decide) (op_len uI rfl hu ?_)
  (repeat (first | refine rl_nil ?_ | refine rl_step (by decide) (op_assign rfl ?_) | refine rl_step (by decide) (op_eql rfl rfl ?_) | fail))
  refine run_if rfl (fun hc2 => ?_) (fun hc2 => ?_)
  · rw [if_pos (List.eq_nil_of_length_eq_zero (by omega))]
    (repeat (first | refine run_seq ?_ | refine run_region_l ?_ | fail))
    refine rl_step (by decide) (op_load1 tdF rfl hv.room rfl ?_)
    refine rl_step (by decide) (op_callv (cap := [ptr bh, ptr bl, ptr bs]) ent43 rfl rfl (room_c M w bh bl bs 5 11 12 h n s hv.height hv.lines hv.shown h1 h2 h3) ?_)
    rintro r w1 ⟨rfl, rfl⟩
    (repeat (first | refine rl_nil ?_ | refine rl_step (by decide) (op_assign rfl ?_) | refine rl_step (by decide) (op_gtr rfl rfl ?_) | fail))
    refine run_ret1 Tryd.func44 rfl rfl ?_
    exact ⟨rfl, Below.refl _ _⟩
  · rw [if_neg (fun hc => hc2 (by rw [hc]; rfl))]
    (repeat (first | refine run_seq ?_ | refine run_inBlock ?_ | refine run_skip ?_ | fail))
    by_cases hsq : s = q.length
    · refine region_dr (M := M) 12 1 [] mixed rfl (by kernel_rfl) (fun w1 hs1 => ?_)
      replace hq := hq.mono hs1.x
      replace hv := hv.up hs1
      refine dr_cons (isv (.int .i64 s)) (by decide) (mono_isv _) (ob0 rfl fun M w' hs => opg (op_load1 tdI rfl (hv.up hs).shown rfl ⟨_, UpM.refl _ _, rfl⟩)) ?_
      refine dr_cons (isv vq) (by decide) (mono_isv _) (ob0 rfl fun M w' hs => opg (op_load1 tdSL rfl (hv.up hs).queue rfl ⟨_, UpM.refl _ _, rfl⟩)) ?_
      refine dr_cons (isv (.int .i64 q.length)) (by decide) (mono_isv _) (ob1 rfl fun M w' hs v1 h1 => ?_) ?_
      · cases h1; exact opg (op_len uL rfl (hq.mono hs.x) ⟨_, UpM.refl _ _, rfl⟩)
      refine dr_cons (isv (.bool true)) (by decide) (mono_isv _) (ob2 rfl fun M w' hs v1 h1 v2 h2 => ?_) ?_
      · cases h1; cases h2; exact opg (op_eql rfl rfl ⟨_, UpM.refl _ _, by rw [decide_eq_true hsq]; rfl⟩)
      refine dr_cons (isv (.bool true)) (by decide) (mono_isv _) (ob1 rfl fun M w' hs v1 h1 => ?_) ?_
      · cases h1; exact opg (op_move rfl ⟨_, UpM.refl _ _, rfl⟩)
      refine dr_cons (isv (.func (.func 43) #[] #[ptr bh, ptr bl, ptr bs])) (by decide) (mono_isv _) (ob1 rfl fun M w' hs v1 h1 => ?_) ?_
      · cases h1; exact opg_yes rfl rfl (op_load1 tdF rfl (hv.up hs).room rfl ⟨_, UpM.refl _ _, rfl⟩)
      refine dr_cons (isv (.int .i64 (h - n - s - min s 1))) (by decide) (mono_isv _) (ob2 rfl fun M w' hs v1 k1 v2 k2 => ?_) ?_
      · cases k1; cases k2
        refine opg_yes rfl rfl (op_callv (cap := [ptr bh, ptr bl, ptr bs]) ent43 rfl rfl (room_c M w' bh bl bs 5 11 12 h n s (hv.up hs).height (hv.up hs).lines (hv.up hs).shown h1 h2 h3) ?_)
        rintro r w1 ⟨rfl, rfl⟩
        exact ⟨_, UpM.refl _ _, rfl⟩
      refine dr_cons (isv (.int .i64 s)) (by decide) (mono_isv _) (ob1 rfl fun M w' hs v1 k1 => ?_) ?_
      · cases k1; exact opg_yes rfl rfl (op_load1 tdI rfl (hv.up hs).shown rfl ⟨_, UpM.refl _ _, rfl⟩)
      refine dr_cons (isv (.int .i64 (min s 1))) (by decide) (mono_isv _) (ob2 rfl fun M w' hs v1 k1 v2 k2 => ?_) ?_
      · cases k1; cases k2; exact opg_yes rfl rfl (op_min rfl rfl ⟨_, UpM.refl _ _, rfl⟩)
      refine dr_cons (isv (.int .i64 (3 - min s 1))) (by decide) (mono_isv _) (ob2 rfl fun M w' hs v1 k1 v2 k2 => ?_) ?_
      · cases k1; cases k2; exact opg_yes rfl rfl (op_sub rfl rfl (by omega) ⟨_, UpM.refl _ _, rfl⟩)
      refine dr_cons (isv (.bool (decide (3 - min s 1 ≤ h - n - s - min s 1)))) (by decide) (mono_isv _) (ob3 rfl fun M w' hs v1 k1 v2 k2 v3 k3 => ?_) ?_
      · cases k1; cases k2; cases k3; exact opg_yes rfl rfl (op_geq rfl rfl ⟨_, UpM.refl _ _, rfl⟩)
      refine dr_cons (isv (.bool (decide (3 - min s 1 ≤ h - n - s - min s 1)))) (by decide) (mono_isv _) (ob2 rfl fun M w' hs v1 k1 v2 k2 => ?_) ?_
      · cases k1; cases k2; exact opg (op_pick_t rfl rfl ⟨_, UpM.refl _ _, rfl⟩)
      refine dr_nil rfl (fun M3 w4 val hs2 hall => ?_)
      obtain ⟨h33, _⟩ := hall
      have e33 : val 33 = _ := h33
      refine RT.sub (fr' := [(33, val 33)]) ?_ (by repeat (first | exact trivial | refine ⟨rfl, ?_⟩))
      rw [e33]
      refine rt_one (i := 12) (by kernel_rfl) rfl (by decide) (op_assign rfl ?_)
      refine rt_nil (by kernel_rfl) ?_
      (repeat (first | refine run_seq ?_ | fail))
      refine run_ret1 Tryd.func44 rfl rfl ?_
      exact ⟨by rw [decide_eq_true hsq, Bool.true_and], (hs1.trans hs2).bel⟩
    · refine region_dr (M := M) 12 1 [] mixed rfl (by kernel_rfl) (fun w1 hs1 => ?_)
      replace hq := hq.mono hs1.x
      replace hv := hv.up hs1
      refine dr_cons (isv (.int .i64 s)) (by decide) (mono_isv _) (ob0 rfl fun M w' hs => opg (op_load1 tdI rfl (hv.up hs).shown rfl ⟨_, UpM.refl _ _, rfl⟩)) ?_
      refine dr_cons (isv vq) (by decide) (mono_isv _) (ob0 rfl fun M w' hs => opg (op_load1 tdSL rfl (hv.up hs).queue rfl ⟨_, UpM.refl _ _, rfl⟩)) ?_
      refine dr_cons (isv (.int .i64 q.length)) (by decide) (mono_isv _) (ob1 rfl fun M w' hs v1 h1 => ?_) ?_
      · cases h1; exact opg (op_len uL rfl (hq.mono hs.x) ⟨_, UpM.refl _ _, rfl⟩)
      refine dr_cons (isv (.bool false)) (by decide) (mono_isv _) (ob2 rfl fun M w' hs v1 h1 v2 h2 => ?_) ?_
      · cases h1; cases h2; exact opg (op_eql rfl rfl ⟨_, UpM.refl _ _, by rw [decide_eq_false hsq]; rfl⟩)
      refine dr_cons (isv (.bool false)) (by decide) (mono_isv _) (ob1 rfl fun M w' hs v1 h1 => ?_) ?_
      · cases h1; exact opg (op_move rfl ⟨_, UpM.refl _ _, rfl⟩)
      refine dr_cons (isv undef) (by decide) (mono_isv _) (ob1 rfl fun M w' hs v1 k1 => ?_) ?_
      · cases k1; exact opg_no rfl rfl (by decide) ⟨_, UpM.refl _ _, rfl⟩
      refine dr_cons (isv undef) (by decide) (mono_isv _) (ob2 rfl fun M w' hs v1 k1 v2 k2 => ?_) ?_
      · cases k1; cases k2; exact opg_no rfl rfl (by decide) ⟨_, UpM.refl _ _, rfl⟩
      refine dr_cons (isv undef) (by decide) (mono_isv _) (ob1 rfl fun M w' hs v1 k1 => ?_) ?_
      · cases k1; exact opg_no rfl rfl (by decide) ⟨_, UpM.refl _ _, rfl⟩
      refine dr_cons (isv undef) (by decide) (mono_isv _) (ob2 rfl fun M w' hs v1 k1 v2 k2 => ?_) ?_
      · cases k1; cases k2; exact opg_no rfl rfl (by decide) ⟨_, UpM.refl _ _, rfl⟩
      refine dr_cons (isv undef) (by decide) (mono_isv _) (ob2 rfl fun M w' hs v1 k1 v2 k2 => ?_) ?_
      · cases k1; cases k2; exact opg_no rfl rfl (by decide) ⟨_, UpM.refl _ _, rfl⟩
      refine dr_cons (isv undef) (by decide) (mono_isv _) (ob3 rfl fun M w' hs v1 k1 v2 k2 v3 k3 => ?_) ?_
      · cases k1; cases k2; cases k3; exact opg_no rfl rfl (by decide) ⟨_, UpM.refl _ _, rfl⟩
      refine dr_cons (isv (.bool false)) (by decide) (mono_isv _) (ob2 rfl fun M w' hs v1 k1 v2 k2 => ?_) ?_
      · cases k1; cases k2; exact opg (op_pick_f rfl rfl ⟨_, UpM.refl _ _, rfl⟩)
      refine dr_nil rfl (fun M3 w4 val hs2 hall => ?_)
      obtain ⟨h33, _⟩ := hall
      have e33 : val 33 = _ := h33
      refine RT.sub (fr' := [(33, val 33)]) ?_ (by repeat (first | exact trivial | refine ⟨rfl, ?_⟩))
      rw [e33]
      refine rt_one (i := 12) (by kernel_rfl) rfl (by decide) (op_assign rfl ?_)
      refine rt_nil (by kernel_rfl) ?_
      (repeat (first | refine run_seq ?_ | fail))
      refine run_ret1 Tryd.func44 rfl rfl ?_
      exact ⟨by rw [decide_eq_false hsq, Bool.false_and], (hs1.trans hs2).bel⟩
end Go.Proofs.YtocoinkhbjlbhaaDoor
end

section
namespace Go.Proofs.YtocoinkhbjlbhaaDoor
open Go Go.RowKit
def SetR (h : Int) (body : List Line) (notes : List (List Line)) (M : Mut) (w : World) (v : Value) : Prop :=
  ∃ vp, v = .tuple #[vp, .int .i64 (chkM body notes h)] ∧ SlOf ePg M w vp (if chkM body notes h = 0 then setAll h body notes else [])
structure PgJ (M0 : Mut) (w0 : World) (h : Int) (notes : List (List Line)) (vn : Value) (bb bh bq : Nat) (M : Mut) (w : World) (body q : List Line) (ps : List Pg) (vb vq vp : Value) : Prop where
  rn : Rn M0 w0 M w
  bb : Box M w bb 3 [vb] 33
  bh : Box M w bh 5 [.int .i64 h] 3
  bq : Box M w bq 10 [vq] 33
  sb : SlOf eLine M w vb body
  sq : SlOf eLine M w vq q
  gq : Grow w0.heap.size M w vq q.length 4 4 42
  sp : SlOf ePg M w vp ps
  gp : Grow w0.heap.size M w vp ps.length 6 9 57
  sn : SlOf (eSl eLine) M w vn notes
  hr : ∀ i ∈ refs body, 0 ≤ i ∧ i < notes.length
theorem PgJ.up {M0 : Mut} {w0 : World} {h : Int} {notes : List (List Line)} {vn : Value} {bb bh bq : Nat} {M M' : Mut} {w w' : World} {body q : List Line} {ps : List Pg} {vb vq vp : Value}
    (k : PgJ M0 w0 h notes vn bb bh bq M w body q ps vb vq vp) (s : UpM M w M' w') : PgJ M0 w0 h notes vn bb bh bq M' w' body q ps vb vq vp :=
  ⟨k.rn.up s, k.bb.up s, k.bh.up s, k.bq.up s, k.sb.mono s.x, k.sq.mono s.x, k.gq.up s, k.sp.mono s.x, k.gp.up s, k.sn.mono s.x, k.hr⟩
theorem PgJ.st {M0 : Mut} {w0 : World} {h : Int} {notes : List (List Line)} {vn : Value} {bb bh bq tag : Nat} {M M' : Mut} {w w' : World} {body q : List Line} {ps : List Pg} {vb vq vp : Value}
    (k : PgJ M0 w0 h notes vn bb bh bq M w body q ps vb vq vp) (s : St w0.heap.size (some tag) M w M' w') (ht : tag ≠ 3 ∧ tag ≠ 5 ∧ tag ≠ 10 ∧ tag ≠ 4 ∧ tag ≠ 9) : PgJ M0 w0 h notes vn bb bh bq M' w' body q ps vb vq vp :=
  ⟨k.rn.st s, k.bb.st s (by simp; omega), k.bh.st s (by simp; omega), k.bq.st s (by simp; omega), k.sb.mono s.x, k.sq.mono s.x, k.gq.st s (by simp; omega), k.sp.mono s.x, k.gp.st s (by simp; omega), k.sn.mono s.x, k.hr⟩
theorem PgJ.vars {M0 : Mut} {w0 : World} {h : Int} {notes : List (List Line)} {vn : Value} {bb bh bq bl bs br : Nat} {M : Mut} {w : World} {body q : List Line} {ps : List Pg} {vb vq vp : Value} {n s : Int}
    (k : PgJ M0 w0 h notes vn bb bh bq M w body q ps vb vq vp) (hl : Box M w bl 11 [.int .i64 n] 3) (hs : Box M w bs 12 [.int .i64 s] 3) (hr : Box M w br 13 [.func (.func 43) #[] #[ptr bh, ptr bl, ptr bs]] 76) :
    Vars M w bb bh bq bl bs br vb vq h n s := ⟨k.bb, k.bh, k.bq, hl, hs, hr⟩
structure FS where
  n : Int
  s : Int
  q : List Line
  vq : Value
  M : Mut
structure LS where
  f : Nat
  body : List Line
  q : List Line
  ps : List Pg
  vb : Value
  vq : Value
  vp : Value
  M : Mut
set_option maxRecDepth 4000 in
set_option maxHeartbeats 1000000 in
theorem set_c (M : Mut) (vb vn : Value) (body : List Line) (notes : List (List Line)) (h : Int) (w : World) (hm : MB M w) (hb : SlOf eLine M w vb body) (hn : SlOf (eSl eLine) M w vn notes) (_hI : I64 h)
    (hsz : chkM body notes h = 0 → body.length ≤ 1000000 ∧ sumR notes body ≤ 1000000) :
    CallsV Tryd.prog 23 [vb, vn, .int .i64 h] w (fun u w' => SetR h body notes M w' u ∧ Below w.heap.size w w') := by
  have hr := Rn.refl hm
  obtain ⟨ab, cb, qb, _⟩ := hb.ex
  refine callsV_of_run Tryd.func23 rfl Tryd.ntmps23 (Nat.le_of_ble_eq_true rfl) ?_
  (repeat (first | refine run_seq ?_ | refine run_region_l ?_ | fail))
  refine rl_step (by decide) (op_box 3 hr (cs := [vb]) rfl (by rw [qb]; rfl) ?_)
  intro bb w1 M1 hBb hbb hs1
  replace hb := hb.mono hs1.x
  replace hn := hn.mono hs1.x
  replace hr := hr.up hs1
  refine rl_step (by decide) (op_box 5 hr (cs := [.int .i64 h]) rfl rfl ?_)
  intro bh w2 M2 hBh hbh hs2
  replace hb := hb.mono hs2.x
  replace hn := hn.mono hs2.x
  replace hr := hr.up hs2
  replace hbb := hbb.up hs2
  (repeat (first | refine run_seq ?_ | refine run_region_l ?_ | refine rl_nil ?_ | refine rl_step (by decide) (op_assign rfl ?_) | fail))
  refine rl_step (by decide) (op_load1 tdSL rfl hbb rfl ?_)
  (repeat (first | refine rl_step (by decide) (op_move rfl ?_) | fail))
  refine rl_step (by decide) (op_load1 tdI rfl hbh rfl ?_)
  refine rl_step (by decide) (op_call ent42 rfl (check_c M2 _ _ _ _ _ _ hr.mb hb hn) ?_)
  rintro e w3 ⟨rfl, hbel⟩
  have hs3 : UpM M2 w2 M2 w3 := UpM.of_below hbel
  replace hb := hb.mono hs3.x
  replace hn := hn.mono hs3.x
  replace hr := hr.up hs3
  replace hbb := hbb.up hs3
  replace hbh := hbh.up hs3
  (repeat (first | refine run_seq ?_ | refine run_region_l ?_ | refine rl_nil ?_ | refine rl_step (by decide) (op_move rfl ?_) | refine rl_step (by decide) (op_assign rfl ?_) | refine rl_step (by decide) (op_neq rfl rfl ?_) | fail))
  refine run_if rfl (fun hc => ?_) (fun hc => ?_)
  · (repeat (first | refine run_seq ?_ | refine run_region_l ?_ | refine rl_nil ?_ | refine rl_step (by decide) (op_move rfl ?_) | refine rl_step (by decide) (op_assign rfl ?_) | fail))
    refine run_ret2 Tryd.func23 rfl rfl rfl ?_
    exact ⟨⟨_, rfl, by rw [if_neg hc]; exact SlOf.nil _ _ _⟩, hr.bel⟩
  have hc : chkM body notes h = 0 := Classical.byContradiction hc
  replace hsz := hsz hc
  clear hs1 hs2 hs3 hbel
  (repeat (first | refine run_seq ?_ | refine run_region_l ?_ | refine rl_nil ?_ | refine rl_step (by decide) (op_assign rfl ?_) | refine run_skip ?_ | fail))
  refine rl_step (by decide) (op_alloc 10 hr tdSL ?_)
  intro bq w4 M4 hBq hbq hs4
  replace hb := hb.mono hs4.x
  replace hn := hn.mono hs4.x
  replace hr := hr.up hs4
  replace hbb := hbb.up hs4
  replace hbh := hbh.up hs4
  clear hs4
  obtain ⟨hh1, hh2, hh3, hord⟩ := chk_ok hc
  have hrefs := ordM_range _ _ _ _ hord (by omega)
  (repeat (first | refine run_seq ?_ | refine rl_nil ?_ | refine run_block ?_ | fail))
  refine (run_loop (α := LS) (fun x => [(1, vn), (3, ptr bb), (5, ptr bh), (9, x.vp), (10, ptr bq)])
    (fun x w' => PgJ M w h notes vn bb bh bq x.M w' x.body x.q x.ps x.vb x.vq x.vp ∧ x.ps.length + x.body.length + x.q.length + sumR notes x.body ≤ 2000000 ∧ x.body.length + x.q.length + sumR notes x.body < x.f ∧ setAll h body notes = x.ps ++ setM h notes x.f x.body x.q)
    (fun x => x.body.length + x.q.length + sumR notes x.body) ⟨body.length + sumR notes body + 1, body, [], [], vb, .slice none 0 0, .slice none 0 0, M4⟩
    ⟨⟨hr, hbb, hbh, hbq, hb, SlOf.nil _ _ _, Grow.nil, SlOf.nil _ _ _, Grow.nil, hn, hrefs⟩, by simp; omega, by simp, rfl⟩ ?_).sub (by repeat (first | exact trivial | refine ⟨rfl, ?_⟩))
  clear hr hbb hbh hbq hb hn hrefs qb
  rintro ⟨f, bd, q, ps, vb, vq, vp, M5⟩ w5 ⟨hJ, hsz2, hf, hall⟩ ih
  simp only at hJ hsz2 hf hall ih
  dsimp only
  have hlb := hJ.sb.le
  (repeat (first | refine run_seq ?_ | refine run_region_l ?_ | fail))
  refine rl_step (by decide) (op_load1 tdSL rfl hJ.bb rfl ?_)
  refine rl_step (by decide) (op_len uL rfl hJ.sb ?_)
  (repeat (first | refine rl_step (by decide) (op_move rfl ?_) | refine rl_step (by decide) (op_gtr rfl rfl ?_) | fail))
  have hcase : (0 : Int) < bd.length ∨ (bd.length = 0 ∧ (0 : Int) < q.length) ∨ (bd = [] ∧ q = []) := by
    rcases Nat.eq_zero_or_pos bd.length with h1 | h1
    · rcases Nat.eq_zero_or_pos q.length with h2 | h2
      · exact .inr (.inr ⟨List.eq_nil_of_length_eq_zero h1, List.eq_nil_of_length_eq_zero h2⟩)
      · exact .inr (.inl (by omega))
    · exact .inl (by omega)
  rcases hcase with hne | hne | ⟨rfl, rfl⟩
  case inr.inr =>
    refine rl_part 28 rfl (fun h => absurd h (by simp)) (fun _ => ?_)
    (repeat (first | refine rl_yes rfl rfl ?_ | fail))
    refine rl_step (by decide) (op_load1 tdSL rfl hJ.bq rfl ?_)
    (repeat (first | refine rl_yes rfl rfl ?_ | fail))
    refine rl_step (by decide) (op_len uL rfl hJ.sq ?_)
    (repeat (first | refine run_seq ?_ | refine run_region_l ?_ | refine rl_nil ?_ | refine rl_step (by decide) (op_move rfl ?_) | refine rl_step (by decide) (op_assign rfl ?_) | refine run_exit rfl ?_ | refine run_false rfl ?_ | refine rl_yes rfl rfl ?_ | refine rl_step (by decide) (op_pick_f rfl rfl ?_) | refine rl_step (by decide) (op_gtr rfl rfl ?_) | fail))
    refine run_ret2 Tryd.func23 rfl rfl rfl ?_
    have hnil : setM h notes f [] [] = [] := by cases f <;> rfl
    rw [hnil, List.append_nil] at hall
    exact ⟨⟨_, by rw [hc], by rw [if_pos hc, hall]; exact hJ.sp.mono hJ.rn.fin⟩, hJ.rn.bel⟩
  · refine rl_part 28 rfl (fun _ => ?_) (fun h => absurd hne h)
    (repeat (first | refine run_seq ?_ | refine rl_nil ?_ | refine run_block ?_ | refine run_skip ?_ | refine run_true rfl ?_ | refine rl_no rfl rfl rfl (by decide) ?_ | refine rl_step (by decide) (op_pick_t rfl rfl ?_) | fail))
    have hne' : 0 < bd.length + q.length := by omega
    clear hne
    refine Run.sub (fr' := [(1, vn), (3, ptr bb), (5, ptr bh), (9, vp), (10, ptr bq)]) ?_ (by repeat (first | exact trivial | refine ⟨rfl, ?_⟩))
    have hq0 := hJ.sq.le
    refine region_dr (M := M5) 8 1 [] mixed rfl (by kernel_rfl) (fun w1 hs1 => ?_)
    replace hJ := hJ.up hs1
    refine dr_cons (isv vq) (by decide) (mono_isv _) (ob0 rfl fun M w' hs => opg (op_load1 tdSL rfl (hJ.bq.up hs) rfl ⟨_, UpM.refl _ _, rfl⟩)) ?_
    refine dr_cons (isv (.int .i64 q.length)) (by decide) (mono_isv _) (ob1 rfl fun M w' hs v1 k1 => ?_) ?_
    · cases k1; exact opg (op_len uL rfl (hJ.sq.mono hs.x) ⟨_, UpM.refl _ _, rfl⟩)
    refine dr_cons (isv (.int .i64 h)) (by decide) (mono_isv _) (ob0 rfl fun M w' hs => opg (op_load1 tdI rfl (hJ.bh.up hs) rfl ⟨_, UpM.refl _ _, rfl⟩)) ?_
    refine dr_cons (isv (.int .i64 (h - 1))) (by decide) (mono_isv _) (ob1 rfl fun M w' hs v1 k1 => ?_) ?_
    · cases k1; exact opg (op_sub rfl rfl (by omega) ⟨_, UpM.refl _ _, rfl⟩)
    refine dr_cons (isv (.int .i64 (min q.length (h - 1)))) (by decide) (mono_isv _) (ob2 rfl fun M w' hs v1 k1 v2 k2 => ?_) ?_
    · cases k1; cases k2; exact opg (op_min rfl rfl ⟨_, UpM.refl _ _, rfl⟩)
    refine dr_cons (isBox w.heap.size 11 [.int .i64 0] 3) (by decide) (mono_isBox _ _ _ _) (ob0 rfl fun M w' hs => opg (op_alloc 11 (hJ.rn.up hs) tdI fun b w2 M2 h1 h2 h3 => ⟨_, h3, b, rfl, h1, h2⟩)) ?_
    refine dr_cons (isBox w.heap.size 12 [.int .i64 0] 3) (by decide) (mono_isBox _ _ _ _) (ob0 rfl fun M w' hs => opg (op_alloc 12 (hJ.rn.up hs) tdI fun b w2 M2 h1 h2 h3 => ⟨_, h3, b, rfl, h1, h2⟩)) ?_
    refine dr_cons0 (ob1 rfl fun M w' hs v1 k1 => ?_) ?_
    · obtain ⟨b, rfl, _, hb⟩ := k1
      exact opg (op_storeU (c := [.int .i64 0]) tdI rfl rfl rfl (by simp [Value.oneCell']) rfl hb (by simp) rfl fun w2 h3 => ⟨_, h3, trivial⟩)
    refine dr_nil rfl (fun M6 w6 val hs2 hall2 => ?_)
    obtain ⟨_, h12, h11, h37, _⟩ := hall2
    have e37 : val 37 = _ := h37
    replace hJ := hJ.up hs2
    obtain ⟨bs, e12, hBs, hbs⟩ := h12
    obtain ⟨bl, e11, hBl, hbl⟩ := h11
    refine RT.sub (fr' := [(1, vn), (3, ptr bb), (5, ptr bh), (9, vp), (10, ptr bq), (11, val 11), (12, val 12), (37, val 37)]) ?_ (by repeat (first | exact trivial | refine ⟨rfl, ?_⟩))
    rw [e11, e12, e37]
    refine rt_one0 (i := 8) (by kernel_rfl) rfl (op_store (c := [.int .i64 (min q.length (h - 1))]) tdI rfl rfl rfl (by simp [Value.oneCell']) rfl hJ.rn hBs hbs (by simp) ?_)
    intro w7 hbs hst
    replace hbl := hbl.st hst (by decide)
    replace hJ := hJ.st hst (by decide)
    refine rt_nil (by kernel_rfl) ?_
    replace hbs : Box M6 w7 bs 12 [.int .i64 (min q.length (h - 1))] 3 := hbs
    clear hst hs1 hs2 h37 e37 e11 e12
    (repeat (first | refine run_seq ?_ | refine run_region_l ?_ | fail))
    refine rl_step (by decide) (op_makeFunc (cap := [.tmp 5, .tmp 11, .tmp 12]) rfl ?_)
    refine rl_step (by decide) (op_alloc 13 hJ.rn tdF ?_)
    intro br w8 M8 hBr hbr hs1
    replace hbl := hbl.up hs1
    replace hbs := hbs.up hs1
    replace hJ := hJ.up hs1
    refine rl_step0 (op_store (c := [.func (.func 43) #[] #[ptr bh, ptr bl, ptr bs]]) tdF rfl rfl rfl (by simp [Value.oneCell']) rfl hJ.rn hBr hbr (by simp) ?_)
    intro w9 hbr hst
    replace hbl := hbl.st hst (by decide)
    replace hbs := hbs.st hst (by decide)
    replace hJ := hJ.st hst (by decide)
    replace hbr : Box M8 w9 br 13 [.func (.func 43) #[] #[ptr bh, ptr bl, ptr bs]] 76 := hbr
    clear hst hs1
    (repeat (first | refine run_seq ?_ | refine run_region_l ?_ | refine rl_nil ?_ | fail))
    refine rl_step (by decide) (op_makeFunc (cap := [.tmp 11, .tmp 3, .tmp 13, .tmp 12, .tmp 10]) rfl ?_)
    (repeat (first | refine run_seq ?_ | refine rl_nil ?_ | refine rl_step (by decide) (op_assign rfl ?_) | refine run_block ?_ | fail))
    refine (run_loop (α := FS) (fun x => [(1, vn), (3, ptr bb), (5, ptr bh), (9, vp), (10, ptr bq), (11, ptr bl), (12, ptr bs), (13, ptr br), (14, .func (.func 44) #[] #[ptr bl, ptr bb, ptr br, ptr bs, ptr bq])])
      (fun x w' => PgJ M w h notes vn bb bh bq x.M w' bd x.q ps vb x.vq vp ∧ Box x.M w' bl 11 [.int .i64 x.n] 3 ∧ Box x.M w' bs 12 [.int .i64 x.s] 3 ∧
        Box x.M w' br 13 [.func (.func 43) #[] #[ptr bh, ptr bl, ptr bs]] 76 ∧ (0 ≤ x.n ∧ x.n ≤ bd.length) ∧ (0 ≤ x.s ∧ x.s ≤ x.q.length) ∧ x.n + x.s + min x.s 1 ≤ h ∧ (x.s = 0 → x.q.length = 0) ∧
        x.q.length + sumR notes (bd.drop x.n.toNat) = q.length + sumR notes bd ∧ min (q.length : Int) (h - 1) ≤ x.s ∧ (x.n = 0 → x.s = min (q.length : Int) (h - 1) ∧ x.q = q) ∧
        fillM h notes (bd.drop x.n.toNat) x.n x.q x.s = fillM h notes bd 0 q (min q.length (h - 1)))
      (fun x => bd.length - x.n.toNat) ⟨0, min q.length (h - 1), q, vq, M8⟩
      ⟨hJ, hbl, hbs, hbr, ⟨by simp, by simp⟩, ⟨by simp only; omega, by simp only; omega⟩, by simp only; omega, by simp only; omega, by simp, by simp only; omega, fun _ => ⟨rfl, rfl⟩, by simp⟩ ?_).sub (by repeat (first | exact trivial | refine ⟨rfl, ?_⟩))
    clear hJ hbl hbs hbr
    rintro ⟨n, s, q1, vq1, M9⟩ w10 ⟨hJ, hbl, hbs, hbr, hn, hs, hfit, hs0, hsum, hmin, hn0, hfill⟩ ih2
    simp only at hJ hbl hbs hbr hn hs hfit hs0 hsum hmin hn0 hfill ih2
    try dsimp only
    (repeat (first | refine run_seq ?_ | refine run_region_l ?_ | refine rl_step (by decide) (op_move rfl ?_) | fail))
    refine rl_step (by decide) (op_callv (cap := [ptr bl, ptr bb, ptr br, ptr bs, ptr bq]) ent44 rfl rfl (fits_c _ _ bb bh bq bl bs br vb vq1 h n s bd q1 (hJ.vars hbl hbs hbr) hJ.sb hJ.sq (by omega) (by omega) (by omega) hn.2) ?_)
    rintro r w11 ⟨rfl, hbel⟩
    have hs1 : UpM M9 w10 M9 w11 := UpM.of_below hbel
    replace hbl := hbl.up hs1
    replace hbs := hbs.up hs1
    replace hbr := hbr.up hs1
    replace hJ := hJ.up hs1
    clear hs1 hbel
    (repeat (first | refine rl_nil ?_ | fail))
    refine run_ifb rfl (fun hb => ?_) (fun hb => ?_)
    · have hlt : n.toNat < bd.length := by
        rcases Nat.lt_or_ge n.toNat bd.length with h' | h'
        · exact h'
        · rw [List.getElem?_eq_none h'] at hb; cases hb
      rw [List.getElem?_eq_getElem hlt] at hb
      simp only at hb
      rw [List.drop_eq_getElem_cons hlt, fillM, if_pos hb] at hfill
      rw [sumR_drop notes bd _ hlt] at hsum
      have hfb := fits_bd hb hs.1 (fun e => by have := hs0 e; omega)
      have hmr : ∀ i ∈ bd[n.toNat].notes, 0 ≤ i ∧ i < notes.length := fun i hi => hJ.hr i (mem_refs hlt hi)
      (repeat (first | refine run_seq ?_ | refine run_region_l ?_ | refine run_block ?_ | refine run_skip ?_ | fail))
      refine rl_step (by decide) (op_load1 tdSL rfl hJ.bb rfl ?_)
      refine rl_step (by decide) (op_load1 tdI rfl hbl rfl ?_)
      refine rl_step (by decide) (op_indexAddr uL teL rfl rfl hJ.sb (by omega) ?_)
      intro ad _ he
      refine rl_step (by decide) (op_fieldAddr fdL3 rfl ?_)
      refine rl_step (by decide) (op_load teSI rfl he.line.2.2.2 ?_)
      intro vl hvl
      rw [eSl_V] at hvl
      refine rl_step (by decide) (op_len uI rfl hvl ?_)
      clear he
      generalize hL : bd[n.toNat].notes = L at hvl hfill hsum hfb hmr
      (repeat (first | refine rl_nil ?_ | refine rl_step (by decide) (op_move rfl ?_) | refine run_block ?_ | fail))
      have hnot : ∀ j, j ≤ L.length → q1.length + ((L.take j).flatMap (noteAt notes)).length ≤ 2000000 := fun j _ => by
        have := flat_take_le (noteAt notes) L j
        omega
      have hlL := hvl.le
      refine (run_loop (α := Nat × List Line × Value × Mut) (fun x => [(1, vn), (3, ptr bb), (5, ptr bh), (9, vp), (10, ptr bq), (11, ptr bl), (12, ptr bs), (13, ptr br), (14, .func (.func 44) #[] #[ptr bl, ptr bb, ptr br, ptr bs, ptr bq]), (46, vl), (47, .int .i64 L.length), (48, .int .i64 x.1)])
        (fun x w' => x.1 ≤ L.length ∧ PgJ M w h notes vn bb bh bq x.2.2.2 w' bd x.2.1 ps vb x.2.2.1 vp ∧ Box x.2.2.2 w' bl 11 [.int .i64 n] 3 ∧ Box x.2.2.2 w' bs 12 [.int .i64 s] 3 ∧
          Box x.2.2.2 w' br 13 [.func (.func 43) #[] #[ptr bh, ptr bl, ptr bs]] 76 ∧ SlOf eI x.2.2.2 w' vl L ∧ x.2.1 = q1 ++ (L.take x.1).flatMap (noteAt notes))
        (fun x => L.length - x.1) (0, q1, vq1, M9) ⟨Nat.zero_le _, hJ, hbl, hbs, hbr, hvl, by simp⟩ ?_).sub (by repeat (first | exact trivial | refine ⟨rfl, ?_⟩))
      clear hJ hbl hbs hbr hvl
      rintro ⟨j, q2, vq2, M10⟩ w12 ⟨hj, hJ, hbl, hbs, hbr, hvl, hq2⟩ ih3
      simp only at hj hJ hbl hbs hbr hvl hq2 ih3
      try dsimp only
      (repeat (first | refine run_seq ?_ | refine run_region_l ?_ | refine rl_nil ?_ | refine rl_step (by decide) (op_lss rfl rfl ?_) | fail))
      refine run_if rfl (fun hlt2 => ?_) (fun hlt2 => ?_)
      · have hj' : j < L.length := by omega
        have hmr' := hmr L[j] (List.getElem_mem hj')
        have hnl := hnot (j + 1) (by omega)
        rw [flat_take _ _ _ hj', List.length_append] at hnl
        (repeat (first | refine run_seq ?_ | refine run_region_l ?_ | refine run_block ?_ | refine run_skip ?_ | fail))
        refine rl_step (by decide) (op_indexAddr uI teI rfl rfl hvl (by omega) ?_)
        intro ad2 _ he2
        refine rl_step (by decide) (op_load teI rfl he2 ?_)
        intro u hu
        rw [eI_V] at hu
        obtain ⟨rfl, hu5⟩ := hu
        simp only [Int.toNat_natCast]
        (repeat (first | refine rl_nil ?_ | refine rl_step (by decide) (op_assign rfl ?_) | fail))
        refine region_dr (M := M10) 5 2 [] mixed rfl (by kernel_rfl) (fun w1 hs1 => ?_)
        replace hbl := hbl.up hs1
        replace hbs := hbs.up hs1
        replace hbr := hbr.up hs1
        replace hvl := hvl.mono hs1.x
        replace hJ := hJ.up hs1
        clear hs1 he2
        refine dr_cons (isv vq2) (by decide) (mono_isv _) (ob0 rfl fun M w' hs => opg (op_load1 tdSL rfl (hJ.bq.up hs) rfl ⟨_, UpM.refl _ _, rfl⟩)) ?_
        refine dr_cons (isv _) (by decide) (mono_isv _) (ob0 rfl fun M w hs => opg (op_move rfl ⟨_, UpM.refl _ _, rfl⟩)) ?_
        refine dr_cons (isv _) (by decide) (mono_isv _) (ob0 rfl fun M w hs => opg (op_move rfl ⟨_, UpM.refl _ _, rfl⟩)) ?_
        refine dr_cons (isPtr (eSl eLine) (noteAt notes L[j])) (by decide) (mono_isPtr _ _) (ob2 rfl fun M w' hs2 v1 h1 v2 h2 => ?_) ?_
        · cases h1; cases h2
          refine opg (op_indexAddr uLL teSL rfl rfl (hJ.sn.mono hs2.x) hmr' ?_)
          intro ad3 hn3 he3
          exact ⟨_, UpM.refl _ _, ad3, rfl, by rw [noteAt_get hn3]; exact he3⟩
        refine dr_cons (isSl eLine (noteAt notes L[j])) (by decide) (mono_isSl _ _) (ob1 rfl fun M w' hs2 v1 h1 => ?_) ?_
        · obtain ⟨ad3, rfl, he3⟩ := h1
          exact opg (op_load teSL rfl he3 fun u hu => ⟨_, UpM.refl _ _, eSl_V.1 hu⟩)
        refine dr_nil rfl (fun M11 w14 val hs2 hall2 => ?_)
        obtain ⟨h56, _, _, _, h52, _⟩ := hall2
        have e52 : val 52 = _ := h52
        replace hbl := hbl.up hs2
        replace hbs := hbs.up hs2
        replace hbr := hbr.up hs2
        replace hvl := hvl.mono hs2.x
        replace hJ := hJ.up hs2
        refine RT.sub (fr' := [(1, vn), (3, ptr bb), (5, ptr bh), (9, vp), (10, ptr bq), (11, ptr bl), (12, ptr bs), (13, ptr br), (14, .func (.func 44) #[] #[ptr bl, ptr bb, ptr br, ptr bs, ptr bq]), (46, vl), (47, .int .i64 L.length), (48, .int .i64 j), (52, val 52), (56, val 56)]) ?_ (by repeat (first | exact trivial | refine ⟨rfl, ?_⟩))
        rw [e52]
        generalize val 56 = v56 at h56
        clear hs2 h52 e52
        refine rt_one (i := 5) (by kernel_rfl) rfl (by decide) (op_append (E := eLine) (tag := 4) uL teL rfl rfl hJ.rn hJ.sq hJ.gq h56 (by rw [hq2, List.length_append]; show _ * 64 ≤ _; omega) ?_)
        intro vq3 w15 M12 hsq hgq hst
        obtain ⟨a3, c3, q3, _⟩ := hsq.ex
        refine rt_one0 (i := 6) (by kernel_rfl) rfl (op_store (c := [vq3]) tdSL rfl rfl (by rw [q3]; rfl) (by rw [q3]; simp [Value.oneCell']) rfl (hJ.rn.st hst) hBq (hJ.bq.st hst (by decide)) (by simp) ?_)
        intro w16 hbq hst2
        have hJ' : PgJ M w h notes vn bb bh bq M12 w16 bd (q2 ++ noteAt notes L[j]) ps vb vq3 vp :=
          ⟨(hJ.rn.st hst).st hst2, (hJ.bb.st hst (by decide)).st hst2 (by decide), (hJ.bh.st hst (by decide)).st hst2 (by decide), hbq, (hJ.sb.mono hst.x).mono hst2.x, hsq.mono hst2.x, hgq.st hst2 (by decide),
            (hJ.sp.mono hst.x).mono hst2.x, (hJ.gp.st hst (by decide)).st hst2 (by decide), (hJ.sn.mono hst.x).mono hst2.x, hJ.hr⟩
        replace hbl := (hbl.st hst (by decide)).st hst2 (by decide)
        replace hbs := (hbs.st hst (by decide)).st hst2 (by decide)
        replace hbr := (hbr.st hst (by decide)).st hst2 (by decide)
        replace hvl := (hvl.mono hst.x).mono hst2.x
        refine rt_nil (by kernel_rfl) ?_
        (repeat (first | refine run_region_l ?_ | refine rl_nil ?_ | refine rl_step (by decide) (op_move rfl ?_) | refine run_inBlock ?_ | refine rl_step (by decide) (op_add rfl rfl (by omega) ?_) | fail))
        exact (ih3 (j + 1, _, _, _) _ ⟨by show j + 1 ≤ _; omega, hJ', hbl, hbs, hbr, hvl, by show _ = _; rw [hq2, flat_take _ _ _ hj', List.append_assoc]⟩ (by show _ - (j + 1) < _ - j; omega)).sub (by repeat (first | exact trivial | refine ⟨rfl, ?_⟩))
      · have hjL : j = L.length := by omega
        subst hjL
        rw [List.take_length] at hq2
        have hq2l : q2.length = q1.length + (L.flatMap (noteAt notes)).length := by rw [hq2, List.length_append]
        have hgb := growM_bd h (n + 1) s q2.length hs.1 (by omega) hfb.1 (fun e1 e2 => by
          rcases hfb.2 with h3 | h3
          · have := hs0 e1
            rw [h3] at hq2l
            simp at hq2l
            omega
          · omega)
        rw [← hq2] at hfill
        (repeat (first | refine run_seq ?_ | refine run_region_l ?_ | refine run_exit rfl ?_ | fail))
        refine rl_step (by decide) (op_load1 tdI rfl hbl rfl ?_)
        (repeat (first | refine rl_step (by decide) (op_add rfl rfl (by omega) ?_) | fail))
        refine rl_step0 (op_store (c := [.int .i64 (n + 1)]) tdI rfl rfl rfl (by simp [Value.oneCell']) rfl hJ.rn hBl hbl (by simp) ?_)
        intro w13 hbl hst
        replace hbl : Box M10 w13 bl 11 [.int .i64 (n + 1)] 3 := hbl
        replace hbs := hbs.st hst (by decide)
        replace hbr := hbr.st hst (by decide)
        replace hJ := hJ.st hst (by decide)
        clear hst hvl
        (repeat (first | refine run_seq ?_ | refine run_region_l ?_ | refine rl_nil ?_ | fail))
        refine rl_step (by decide) (op_load1 tdSL rfl hJ.bq rfl ?_)
        refine rl_step (by decide) (op_len uL rfl hJ.sq ?_)
        refine rl_step (by decide) (op_load1 tdI rfl hbs rfl ?_)
        (repeat (first | refine run_seq ?_ | refine run_region_l ?_ | refine rl_nil ?_ | refine rl_step (by decide) (op_move rfl ?_) | refine rl_step (by decide) (op_assign rfl ?_) | refine rl_step (by decide) (op_gtr rfl rfl ?_) | refine rl_step (by decide) (op_sub rfl rfl (by omega) ?_) | fail))
        refine run_if rfl (fun hmore => ?_) (fun hmore => ?_)
        · (repeat (first | refine run_seq ?_ | fail))
          refine region_dr (M := M10) 10 1 [] mixed rfl (by kernel_rfl) (fun w1 hs1 => ?_)
          replace hbl := hbl.up hs1
          replace hbs := hbs.up hs1
          replace hbr := hbr.up hs1
          replace hJ := hJ.up hs1
          clear hs1
          refine dr_cons (isv (.int .i64 s)) (by decide) (mono_isv _) (ob0 rfl fun M w' hs2 => opg (op_load1 tdI rfl (hbs.up hs2) rfl ⟨_, UpM.refl _ _, rfl⟩)) ?_
          refine dr_cons (isv _) (by decide) (mono_isv _) (ob0 rfl fun M w hs => opg (op_move rfl ⟨_, UpM.refl _ _, rfl⟩)) ?_
          refine dr_cons (isv (.func (.func 43) #[] #[ptr bh, ptr bl, ptr bs])) (by decide) (mono_isv _) (ob0 rfl fun M w' hs2 => opg (op_load1 tdF rfl (hbr.up hs2) rfl ⟨_, UpM.refl _ _, rfl⟩)) ?_
          refine dr_cons (isv (.int .i64 (h - (n + 1) - s - min s 1))) (by decide) (mono_isv _) (ob1 rfl fun M w' hs2 v1 k1 => ?_) ?_
          · cases k1
            refine opg (op_callv (cap := [ptr bh, ptr bl, ptr bs]) ent43 rfl rfl (room_c M w' bh bl bs 5 11 12 h (n + 1) s (hJ.bh.up hs2) (hbl.up hs2) (hbs.up hs2) (by omega) (by omega) (by omega)) ?_)
            rintro r w1 ⟨rfl, rfl⟩
            exact ⟨_, UpM.refl _ _, rfl⟩
          refine dr_cons (isv (.int .i64 (h - (n + 1) - s - min s 1 - 1))) (by decide) (mono_isv _) (ob1 rfl fun M w' hs2 v1 k1 => ?_) ?_
          · cases k1; exact opg (op_sub rfl rfl (by omega) ⟨_, UpM.refl _ _, rfl⟩)
          refine dr_cons (isv (.int .i64 s)) (by decide) (mono_isv _) (ob0 rfl fun M w' hs2 => opg (op_load1 tdI rfl (hbs.up hs2) rfl ⟨_, UpM.refl _ _, rfl⟩)) ?_
          refine dr_cons (isv (.int .i64 (min s 1))) (by decide) (mono_isv _) (ob1 rfl fun M w' hs2 v1 k1 => ?_) ?_
          · cases k1; exact opg (op_min rfl rfl ⟨_, UpM.refl _ _, rfl⟩)
          refine dr_cons (isv (.int .i64 (h - (n + 1) - s - min s 1 - 1 + min s 1))) (by decide) (mono_isv _) (ob2 rfl fun M w' hs2 v1 k1 v2 k2 => ?_) ?_
          · cases k1; cases k2; exact opg (op_add rfl rfl (by omega) ⟨_, UpM.refl _ _, rfl⟩)
          refine dr_cons (isv (.int .i64 (min (q2.length - s) (h - (n + 1) - s - min s 1 - 1 + min s 1)))) (by decide) (mono_isv _) (ob2 rfl fun M w' hs2 v1 k1 v2 k2 => ?_) ?_
          · cases k1; cases k2; exact opg (op_min rfl rfl ⟨_, UpM.refl _ _, rfl⟩)
          refine dr_cons (isv (.int .i64 (s + min (q2.length - s) (h - (n + 1) - s - min s 1 - 1 + min s 1)))) (by decide) (mono_isv _) (ob2 rfl fun M w' hs2 v1 k1 v2 k2 => ?_) ?_
          · cases k1; cases k2; exact opg (op_add rfl rfl (by omega) ⟨_, UpM.refl _ _, rfl⟩)
          refine dr_nil rfl (fun M11 w14 val hs2 hall2 => ?_)
          obtain ⟨h76, _⟩ := hall2
          have e76 : val 76 = _ := h76
          replace hbl := hbl.up hs2
          replace hbs := hbs.up hs2
          replace hbr := hbr.up hs2
          replace hJ := hJ.up hs2
          have hg : growM h (n + 1) s q2.length = s + min (q2.length - s) (h - (n + 1) - s - min s 1 - 1 + min s 1) := if_pos hmore
          rw [← hg] at e76
          refine RT.sub (fr' := [(1, vn), (3, ptr bb), (5, ptr bh), (9, vp), (10, ptr bq), (11, ptr bl), (12, ptr bs), (13, ptr br), (14, .func (.func 44) #[] #[ptr bl, ptr bb, ptr br, ptr bs, ptr bq]), (76, val 76)]) ?_ (by repeat (first | exact trivial | refine ⟨rfl, ?_⟩))
          rw [e76]
          clear hs2 h76 e76 hg
          refine rt_one0 (i := 10) (by kernel_rfl) rfl (op_store (c := [.int .i64 (growM h (n + 1) s q2.length)]) tdI rfl rfl rfl (by simp [Value.oneCell']) rfl hJ.rn hBs hbs (by simp) ?_)
          intro w15 hbs hst
          replace hbs : Box M11 w15 bs 12 [.int .i64 (growM h (n + 1) s q2.length)] 3 := hbs
          replace hbl := hbl.st hst (by decide)
          replace hbr := hbr.st hst (by decide)
          replace hJ := hJ.st hst (by decide)
          refine rt_nil (by kernel_rfl) ?_
          (repeat (first | refine run_inBlock ?_ | fail))
          generalize growM h (n + 1) s q2.length = s' at hgb hfill hbs
          refine (ih2 ⟨n + 1, s', q2, vq2, M11⟩ _ ⟨hJ, hbl, hbs, hbr, ⟨by simp only; omega, by simp only; omega⟩, ⟨by simp only; omega, hgb.2.1⟩, hgb.2.2.1, by simp only; omega, ?_, by simp only; omega, by simp only; omega, ?_⟩ (by simp only; omega)).sub (by repeat (first | exact trivial | refine ⟨rfl, ?_⟩))
          · simp only
            rw [show (n + 1).toNat = n.toNat + 1 by omega]
            omega
          · simp only
            rw [show (n + 1).toNat = n.toNat + 1 by omega]
            exact hfill
        · (repeat (first | refine run_inBlock ?_ | refine run_skip ?_ | fail))
          have hg : growM h (n + 1) s q2.length = s := if_neg hmore
          rw [hg] at hgb hfill
          refine (ih2 ⟨n + 1, s, q2, vq2, M10⟩ _ ⟨hJ, hbl, hbs, hbr, ⟨by simp only; omega, by simp only; omega⟩, ⟨hs.1, hgb.2.1⟩, hgb.2.2.1, by simp only; omega, ?_, hmin, by simp only; omega, ?_⟩ (by simp only; omega)).sub (by repeat (first | exact trivial | refine ⟨rfl, ?_⟩))
          · simp only
            rw [show (n + 1).toNat = n.toNat + 1 by omega]
            omega
          · simp only
            rw [show (n + 1).toNat = n.toNat + 1 by omega]
            exact hfill
    · (repeat (first | refine run_seq ?_ | refine run_exit rfl ?_ | fail))
      have hprog : 0 < n + s := by
        rcases Int.lt_or_eq_of_le hn.1 with h' | h'
        · omega
        · obtain ⟨e1, e2⟩ := hn0 h'.symm
          rcases Nat.eq_zero_or_pos q.length with h2 | h2
          · have hlt : n.toNat < bd.length := by omega
            rw [List.getElem?_eq_getElem hlt] at hb
            simp only at hb
            have h3 : s = 0 := by omega
            generalize bd[n.toNat] = x at hb
            rw [← h', h3, e2, h2, show ((0 : Nat) : Int) = 0 from rfl] at hb
            rw [fits_first x hh1] at hb
            cases hb
          · omega
      have hfin : fillM h notes bd 0 q (min q.length (h - 1)) = (n, q1, s) := by
        rw [← hfill]
        rcases Nat.lt_or_ge n.toNat bd.length with h' | h'
        · rw [List.getElem?_eq_getElem h'] at hb
          simp only at hb
          rw [List.drop_eq_getElem_cons h', fillM, hb]
          rfl
        · rw [List.drop_eq_nil_of_le h', fillM]
      have hset : ∃ f', f = f' + 1 ∧ setM h notes f bd q = ⟨0, 0, 0, 0, bd.take n.toNat, q1.take s.toNat⟩ :: setM h notes f' (bd.drop n.toNat) (q1.drop s.toNat) := by
        refine ⟨f - 1, by omega, ?_⟩
        have hne : (bd.isEmpty && q.isEmpty) = false := by
          rw [Bool.and_eq_false_iff]
          rcases Nat.eq_zero_or_pos bd.length with h1 | h1
          · right
            cases q with
            | nil => simp at hne'; omega
            | cons => rfl
          · left
            cases bd with
            | nil => simp at h1
            | cons => rfl
        rw [show f = (f - 1) + 1 by omega, setM, hne, hfin]
        simp
      obtain ⟨f', rfl, hset⟩ := hset
      rw [hset, List.append_cons] at hall
      clear hb hfill hset hfin hn0
      refine region_dr (M := M9) 11 2 [] mixed rfl (by kernel_rfl) (fun w1 hs1 => ?_)
      replace hbl := hbl.up hs1
      replace hbs := hbs.up hs1
      replace hJ := hJ.up hs1
      clear hs1 hbr
      refine dr_cons (isv _) (by decide) (mono_isv _) (ob0 rfl fun M w hs => opg (op_move rfl ⟨_, UpM.refl _ _, rfl⟩)) ?_
      refine dr_cons (isv vb) (by decide) (mono_isv _) (ob0 rfl fun M w' hs2 => opg (op_load1 tdSL rfl (hJ.bb.up hs2) rfl ⟨_, UpM.refl _ _, rfl⟩)) ?_
      refine dr_cons (isv (.int .i64 n)) (by decide) (mono_isv _) (ob0 rfl fun M w' hs2 => opg (op_load1 tdI rfl (hbl.up hs2) rfl ⟨_, UpM.refl _ _, rfl⟩)) ?_
      refine dr_cons (isSl eLine (bd.take n.toNat)) (by decide) (mono_isSl _ _) (ob2 rfl fun M w' hs2 v1 k1 v2 k2 => ?_) ?_
      · cases k1; cases k2
        exact opg (op_slice_h uL teL rfl rfl (hJ.sb.mono hs2.x) hn fun u hu => ⟨_, UpM.refl _ _, hu⟩)
      refine dr_cons (isSl eLine (bd.take n.toNat)) (by decide) (mono_isSl _ _) (ob1 rfl fun M w' hs2 v1 k1 => ?_) ?_
      · exact opg (op_call ent45 rfl (clone_c M _ _ _ (hs2.mb hJ.rn.mb) k1) fun u w2 hu => ⟨_, UpM.of_below hu.1, hu.2⟩)
      refine dr_cons (isv vq1) (by decide) (mono_isv _) (ob0 rfl fun M w' hs2 => opg (op_load1 tdSL rfl (hJ.bq.up hs2) rfl ⟨_, UpM.refl _ _, rfl⟩)) ?_
      refine dr_cons (isv (.int .i64 s)) (by decide) (mono_isv _) (ob0 rfl fun M w' hs2 => opg (op_load1 tdI rfl (hbs.up hs2) rfl ⟨_, UpM.refl _ _, rfl⟩)) ?_
      refine dr_cons (isSl eLine (q1.take s.toNat)) (by decide) (mono_isSl _ _) (ob2 rfl fun M w' hs2 v1 k1 v2 k2 => ?_) ?_
      · cases k1; cases k2
        exact opg (op_slice_h uL teL rfl rfl (hJ.sq.mono hs2.x) hs fun u hu => ⟨_, UpM.refl _ _, hu⟩)
      refine dr_cons (isSl eLine (q1.take s.toNat)) (by decide) (mono_isSl _ _) (ob1 rfl fun M w' hs2 v1 k1 => ?_) ?_
      · exact opg (op_call ent45 rfl (clone_c M _ _ _ (hs2.mb hJ.rn.mb) k1) fun u w2 hu => ⟨_, UpM.of_below hu.1, hu.2⟩)
      refine dr_cons (isV ePg ⟨0, 0, 0, 0, bd.take n.toNat, q1.take s.toNat⟩) (by decide) (mono_isV _ _) (ob2 rfl fun M w' hs2 v1 k1 v2 k2 => ?_) ?_
      · obtain ⟨a1, c1, q1', _⟩ := SlOf.ex k1
        obtain ⟨a2, c2, q2', _⟩ := SlOf.ex k2
        refine opg (op_build (parts := [(3, .tmp 81), (4, .tmp 85)]) (vs := [v1, v2]) (pl := [(4, [v1]), (5, [v2])]) sbP rfl ⟨rfl, by rw [q1']; rfl, Nat.le_of_ble_eq_true rfl, rfl, by rw [q2']; rfl, Nat.le_of_ble_eq_true rfl, trivial⟩ ⟨_, UpM.refl _ _, ?_⟩)
        exact ePg_V.2 ⟨v1, v2, rfl, ⟨by unfold I64; simp, by unfold I64; simp, by unfold I64; simp, by unfold I64; simp⟩, k1, k2⟩
      refine dr_cons (isSl ePg [⟨0, 0, 0, 0, bd.take n.toNat, q1.take s.toNat⟩]) (by decide) (mono_isSl _ _) (ob1 rfl fun M w' hs2 v1 k1 => ?_) ?_
      · exact opg (op_buildSlice (E := ePg) (n := 1) (parts := [(0, .tmp 86)]) (vs := [v1]) (l := [⟨0, 0, 0, 0, bd.take n.toNat, q1.take s.toNat⟩]) uP teP (hJ.rn.up hs2) rfl rfl ⟨k1, trivial⟩ rfl ⟨by simp [ePg, Enc.via, Enc.app, eSl, eN], by simp [ePg, Enc.via]⟩ fun u w2 hu _ hbel => ⟨_, UpM.of_below hbel, hu⟩)
      refine dr_nil rfl (fun M11 w14 val hs2 hall2 => ?_)
      obtain ⟨h87, _, _, _, _, _, _, _, _, _, h77, _⟩ := hall2
      have e77 : val 77 = _ := h77
      replace hbl := hbl.up hs2
      replace hbs := hbs.up hs2
      replace hJ := hJ.up hs2
      refine RT.sub (fr' := [(1, vn), (3, ptr bb), (5, ptr bh), (10, ptr bq), (11, ptr bl), (12, ptr bs), (77, val 77), (87, val 87)]) ?_ (by repeat (first | exact trivial | refine ⟨rfl, ?_⟩))
      rw [e77]
      generalize val 87 = v87 at h87
      clear hs2 h77 e77
      refine rt_one (i := 11) (by kernel_rfl) rfl (by decide) (op_append (E := ePg) (tag := 9) uP teP rfl rfl hJ.rn hJ.sp hJ.gp h87 (by show (ps.length + 1) * 80 ≤ _; omega) ?_)
      intro vp2 w15 M12 hsp hgp hst
      replace hbl := hbl.st hst (by decide)
      replace hbs := hbs.st hst (by decide)
      have hJ : PgJ M w h notes vn bb bh bq M12 w15 bd q1 _ vb vq1 vp2 :=
        ⟨hJ.rn.st hst, hJ.bb.st hst (by decide), hJ.bh.st hst (by decide), hJ.bq.st hst (by decide), hJ.sb.mono hst.x, hJ.sq.mono hst.x, hJ.gq.st hst (by decide),
          hsp, hgp, hJ.sn.mono hst.x, hJ.hr⟩
      clear hst hsp hgp h87
      refine rt_one (i := 12) (by kernel_rfl) rfl (by decide) (op_assign rfl ?_)
      refine rt_nil (by kernel_rfl) ?_
      (repeat (first | refine run_seq ?_ | fail))
      refine region_dg (M := M12) (relW_ok w.heap.size) { tag := [none, none, none, none, none, none, some 3], pre := [[], [], [], [3], [3], [3], []], oth := [[3], [3], [3], [3], [3], [3], []] } 7 1 [] mixed rfl (by kernel_rfl) (fun w16 hs1 => ?_)
      replace hbl := hbl.up hs1
      replace hbs := hbs.up hs1
      replace hJ := hJ.up hs1
      clear hs1
      refine dg_cons (isv vb) (by decide) (fun _ _ _ _ _ _ h => h) (og0 rfl fun M w' hs2 => opg (op_load1 tdSL rfl (hJ.bb.stw hs2 (nin rfl)) rfl ⟨_, (relW_ok _).refl _ _, rfl⟩)) ?_
      refine dg_cons (isv (.int .i64 n)) (by decide) (fun _ _ _ _ _ _ h => h) (og0 rfl fun M w' hs2 => opg (op_load1 tdI rfl (hbl.stw hs2 (nin rfl)) rfl ⟨_, (relW_ok _).refl _ _, rfl⟩)) ?_
      refine dg_cons (isSl eLine (bd.drop n.toNat)) (by decide) (fun _ _ _ _ _ s h => h.mono s.x) (og2 rfl fun M w' hs2 v1 k1 v2 k2 => ?_) ?_
      · cases k1; cases k2
        exact opg (op_slice_l uL teL rfl rfl (hJ.sb.mono hs2.x) hn fun u hu => ⟨_, (relW_ok _).refl _ _, hu⟩)
      refine dg_cons (isv vq1) (by decide) (fun _ _ _ _ _ _ h => h) (og0 rfl fun M w' hs2 => opg (op_load1 tdSL rfl (hJ.bq.stw hs2 (nin rfl)) rfl ⟨_, (relW_ok _).mono (by simp) ((relW_ok _).refl _ _), rfl⟩)) ?_
      refine dg_cons (isv (.int .i64 s)) (by decide) (fun _ _ _ _ _ _ h => h) (og0 rfl fun M w' hs2 => opg (op_load1 tdI rfl (hbs.stw hs2 (nin rfl)) rfl ⟨_, (relW_ok _).mono (by simp) ((relW_ok _).refl _ _), rfl⟩)) ?_
      refine dg_cons (fun M w' v => SlOf eLine M w' v (q1.drop s.toNat) ∧ Grow w.heap.size M w' v (q1.drop s.toNat).length 4 4 42) (by decide) (fun _ _ _ _ _ s h => ⟨h.1.mono s.x, h.2.stw s (nin rfl)⟩) (og2 rfl fun M w' hs2 v1 k1 v2 k2 => ?_) ?_
      · cases k1; cases k2
        exact opg (op_slice_lG uL teL rfl rfl (hJ.sq.mono hs2.x) (hJ.gq.stw hs2 (nin rfl)) hs fun u hu hu2 => ⟨_, (relW_ok _).mono (by simp) ((relW_ok _).refl _ _), hu, hu2⟩)
      refine dg_cons0 (fun M w' => ∃ v, Box M w' bb 3 [v] 33 ∧ SlOf eLine M w' v (bd.drop n.toNat)) (fun _ _ _ _ _ s ⟨v, h1, h2⟩ => ⟨v, h1.stw s (nin rfl), h2.mono s.x⟩) (og1 rfl fun M w' hs2 v1 k1 => ?_) ?_
      · refine opg (op_store (c := [v1]) tdSL rfl rfl (by obtain ⟨_, _, q, _⟩ := SlOf.ex k1; rw [q]; rfl) (by obtain ⟨_, _, q, _⟩ := SlOf.ex k1; rw [q]; simp [Value.oneCell']) rfl (hJ.rn.stw hs2) hBb (hJ.bb.stw hs2 (nin rfl)) (by simp) fun w2 h1 h2 => ⟨_, StW.st h2, v1, h1, ?_⟩)
        exact SlOf.mono k1 h2.x
      refine dg_nil rfl (fun M13 w17 val hs2 hall2 => ?_)
      obtain ⟨⟨vb', hbb', hsb'⟩, ⟨hsq', hgq'⟩, _⟩ := hall2
      have e94 : SlOf eLine M13 w17 (val 94) (q1.drop s.toNat) := hsq'
      replace hgq' : Grow w.heap.size M13 w17 (val 94) (q1.drop s.toNat).length 4 4 42 := hgq'
      refine RT.sub (fr' := [(1, vn), (3, ptr bb), (5, ptr bh), (9, vp2), (10, ptr bq), (94, val 94)]) ?_ (by repeat (first | exact trivial | refine ⟨rfl, ?_⟩))
      generalize val 94 = vq' at e94 hgq'
      obtain ⟨aq, cq, qq, _⟩ := SlOf.ex e94
      refine rt_one0 (i := 7) (by kernel_rfl) rfl (op_store (c := [vq']) tdSL rfl rfl (by rw [qq]; rfl) (by rw [qq]; simp [Value.oneCell']) rfl (hJ.rn.stw hs2) hBq (hJ.bq.stw hs2 (nin rfl)) (by simp) ?_)
      intro w18 hbq hst
      replace hbq : Box M13 w18 bq 10 [vq'] 33 := hbq
      have hJ : PgJ M w h notes vn bb bh bq M13 w18 (bd.drop n.toNat) (q1.drop s.toNat) (ps ++ [⟨0, 0, 0, 0, bd.take n.toNat, q1.take s.toNat⟩]) vb' vq' vp2 :=
        ⟨(hJ.rn.stw hs2).st hst, hbb'.st hst (by decide), (hJ.bh.stw hs2 (nin rfl)).st hst (by decide), hbq, hsb'.mono hst.x, e94.mono hst.x, hgq'.st hst (by decide),
          (hJ.sp.mono hs2.x).mono hst.x, by simpa using (hJ.gp.stw hs2 (nin rfl)).st hst (by decide), (hJ.sn.mono hs2.x).mono hst.x, fun i hi => hJ.hr i (refs_sub hi)⟩
      refine rt_nil (by kernel_rfl) ?_
      clear hst hs2 hbq hsq' hgq' e94
      (repeat (first | refine run_inBlock ?_ | fail))
      have hd1 : (bd.drop n.toNat).length = bd.length - n.toNat := List.length_drop
      have hd2 : (q1.drop s.toNat).length = q1.length - s.toNat := List.length_drop
      refine (ih ⟨f', bd.drop n.toNat, q1.drop s.toNat, ps ++ [⟨0, 0, 0, 0, bd.take n.toNat, q1.take s.toNat⟩], vb', vq', vp2, M13⟩ _ ⟨hJ, ?_, ?_, hall⟩ ?_).sub (by repeat (first | exact trivial | refine ⟨rfl, ?_⟩))
      · simp only [List.length_append, List.length_cons, List.length_nil]
        omega
      · simp only
        omega
      · simp only
        omega
  · refine rl_part 28 rfl (fun h => absurd h (by omega)) (fun _ => ?_)
    (repeat (first | refine rl_yes rfl rfl ?_ | fail))
    refine rl_step (by decide) (op_load1 tdSL rfl hJ.bq rfl ?_)
    (repeat (first | refine rl_yes rfl rfl ?_ | fail))
    refine rl_step (by decide) (op_len uL rfl hJ.sq ?_)
    (repeat (first | refine rl_nil ?_ | refine rl_yes rfl rfl ?_ | refine rl_step (by decide) (op_pick_f rfl rfl ?_) | refine rl_step (by decide) (op_gtr rfl rfl ?_) | fail))
    refine run_yes rfl hne.2 ?_
    (repeat (first | refine run_seq ?_ | refine run_block ?_ | refine run_skip ?_ | fail))
    have hne' : 0 < bd.length + q.length := by omega
    clear hne
    refine Run.sub (fr' := [(1, vn), (3, ptr bb), (5, ptr bh), (9, vp), (10, ptr bq)]) ?_ (by repeat (first | exact trivial | refine ⟨rfl, ?_⟩))
    have hq0 := hJ.sq.le
    refine region_dr (M := M5) 8 1 [] mixed rfl (by kernel_rfl) (fun w1 hs1 => ?_)
    replace hJ := hJ.up hs1
    refine dr_cons (isv vq) (by decide) (mono_isv _) (ob0 rfl fun M w' hs => opg (op_load1 tdSL rfl (hJ.bq.up hs) rfl ⟨_, UpM.refl _ _, rfl⟩)) ?_
    refine dr_cons (isv (.int .i64 q.length)) (by decide) (mono_isv _) (ob1 rfl fun M w' hs v1 k1 => ?_) ?_
    · cases k1; exact opg (op_len uL rfl (hJ.sq.mono hs.x) ⟨_, UpM.refl _ _, rfl⟩)
    refine dr_cons (isv (.int .i64 h)) (by decide) (mono_isv _) (ob0 rfl fun M w' hs => opg (op_load1 tdI rfl (hJ.bh.up hs) rfl ⟨_, UpM.refl _ _, rfl⟩)) ?_
    refine dr_cons (isv (.int .i64 (h - 1))) (by decide) (mono_isv _) (ob1 rfl fun M w' hs v1 k1 => ?_) ?_
    · cases k1; exact opg (op_sub rfl rfl (by omega) ⟨_, UpM.refl _ _, rfl⟩)
    refine dr_cons (isv (.int .i64 (min q.length (h - 1)))) (by decide) (mono_isv _) (ob2 rfl fun M w' hs v1 k1 v2 k2 => ?_) ?_
    · cases k1; cases k2; exact opg (op_min rfl rfl ⟨_, UpM.refl _ _, rfl⟩)
    refine dr_cons (isBox w.heap.size 11 [.int .i64 0] 3) (by decide) (mono_isBox _ _ _ _) (ob0 rfl fun M w' hs => opg (op_alloc 11 (hJ.rn.up hs) tdI fun b w2 M2 h1 h2 h3 => ⟨_, h3, b, rfl, h1, h2⟩)) ?_
    refine dr_cons (isBox w.heap.size 12 [.int .i64 0] 3) (by decide) (mono_isBox _ _ _ _) (ob0 rfl fun M w' hs => opg (op_alloc 12 (hJ.rn.up hs) tdI fun b w2 M2 h1 h2 h3 => ⟨_, h3, b, rfl, h1, h2⟩)) ?_
    refine dr_cons0 (ob1 rfl fun M w' hs v1 k1 => ?_) ?_
    · obtain ⟨b, rfl, _, hb⟩ := k1
      exact opg (op_storeU (c := [.int .i64 0]) tdI rfl rfl rfl (by simp [Value.oneCell']) rfl hb (by simp) rfl fun w2 h3 => ⟨_, h3, trivial⟩)
    refine dr_nil rfl (fun M6 w6 val hs2 hall2 => ?_)
    obtain ⟨_, h12, h11, h37, _⟩ := hall2
    have e37 : val 37 = _ := h37
    replace hJ := hJ.up hs2
    obtain ⟨bs, e12, hBs, hbs⟩ := h12
    obtain ⟨bl, e11, hBl, hbl⟩ := h11
    refine RT.sub (fr' := [(1, vn), (3, ptr bb), (5, ptr bh), (9, vp), (10, ptr bq), (11, val 11), (12, val 12), (37, val 37)]) ?_ (by repeat (first | exact trivial | refine ⟨rfl, ?_⟩))
    rw [e11, e12, e37]
    refine rt_one0 (i := 8) (by kernel_rfl) rfl (op_store (c := [.int .i64 (min q.length (h - 1))]) tdI rfl rfl rfl (by simp [Value.oneCell']) rfl hJ.rn hBs hbs (by simp) ?_)
    intro w7 hbs hst
    replace hbl := hbl.st hst (by decide)
    replace hJ := hJ.st hst (by decide)
    refine rt_nil (by kernel_rfl) ?_
    replace hbs : Box M6 w7 bs 12 [.int .i64 (min q.length (h - 1))] 3 := hbs
    clear hst hs1 hs2 h37 e37 e11 e12
    (repeat (first | refine run_seq ?_ | refine run_region_l ?_ | fail))
    refine rl_step (by decide) (op_makeFunc (cap := [.tmp 5, .tmp 11, .tmp 12]) rfl ?_)
    refine rl_step (by decide) (op_alloc 13 hJ.rn tdF ?_)
    intro br w8 M8 hBr hbr hs1
    replace hbl := hbl.up hs1
    replace hbs := hbs.up hs1
    replace hJ := hJ.up hs1
    refine rl_step0 (op_store (c := [.func (.func 43) #[] #[ptr bh, ptr bl, ptr bs]]) tdF rfl rfl rfl (by simp [Value.oneCell']) rfl hJ.rn hBr hbr (by simp) ?_)
    intro w9 hbr hst
    replace hbl := hbl.st hst (by decide)
    replace hbs := hbs.st hst (by decide)
    replace hJ := hJ.st hst (by decide)
    replace hbr : Box M8 w9 br 13 [.func (.func 43) #[] #[ptr bh, ptr bl, ptr bs]] 76 := hbr
    clear hst hs1
    (repeat (first | refine run_seq ?_ | refine run_region_l ?_ | refine rl_nil ?_ | fail))
    refine rl_step (by decide) (op_makeFunc (cap := [.tmp 11, .tmp 3, .tmp 13, .tmp 12, .tmp 10]) rfl ?_)
    (repeat (first | refine run_seq ?_ | refine rl_nil ?_ | refine rl_step (by decide) (op_assign rfl ?_) | refine run_block ?_ | fail))
    refine (run_loop (α := FS) (fun x => [(1, vn), (3, ptr bb), (5, ptr bh), (9, vp), (10, ptr bq), (11, ptr bl), (12, ptr bs), (13, ptr br), (14, .func (.func 44) #[] #[ptr bl, ptr bb, ptr br, ptr bs, ptr bq])])
      (fun x w' => PgJ M w h notes vn bb bh bq x.M w' bd x.q ps vb x.vq vp ∧ Box x.M w' bl 11 [.int .i64 x.n] 3 ∧ Box x.M w' bs 12 [.int .i64 x.s] 3 ∧
        Box x.M w' br 13 [.func (.func 43) #[] #[ptr bh, ptr bl, ptr bs]] 76 ∧ (0 ≤ x.n ∧ x.n ≤ bd.length) ∧ (0 ≤ x.s ∧ x.s ≤ x.q.length) ∧ x.n + x.s + min x.s 1 ≤ h ∧ (x.s = 0 → x.q.length = 0) ∧
        x.q.length + sumR notes (bd.drop x.n.toNat) = q.length + sumR notes bd ∧ min (q.length : Int) (h - 1) ≤ x.s ∧ (x.n = 0 → x.s = min (q.length : Int) (h - 1) ∧ x.q = q) ∧
        fillM h notes (bd.drop x.n.toNat) x.n x.q x.s = fillM h notes bd 0 q (min q.length (h - 1)))
      (fun x => bd.length - x.n.toNat) ⟨0, min q.length (h - 1), q, vq, M8⟩
      ⟨hJ, hbl, hbs, hbr, ⟨by simp, by simp⟩, ⟨by simp only; omega, by simp only; omega⟩, by simp only; omega, by simp only; omega, by simp, by simp only; omega, fun _ => ⟨rfl, rfl⟩, by simp⟩ ?_).sub (by repeat (first | exact trivial | refine ⟨rfl, ?_⟩))
    clear hJ hbl hbs hbr
    rintro ⟨n, s, q1, vq1, M9⟩ w10 ⟨hJ, hbl, hbs, hbr, hn, hs, hfit, hs0, hsum, hmin, hn0, hfill⟩ ih2
    simp only at hJ hbl hbs hbr hn hs hfit hs0 hsum hmin hn0 hfill ih2
    try dsimp only
    (repeat (first | refine run_seq ?_ | refine run_region_l ?_ | refine rl_step (by decide) (op_move rfl ?_) | fail))
    refine rl_step (by decide) (op_callv (cap := [ptr bl, ptr bb, ptr br, ptr bs, ptr bq]) ent44 rfl rfl (fits_c _ _ bb bh bq bl bs br vb vq1 h n s bd q1 (hJ.vars hbl hbs hbr) hJ.sb hJ.sq (by omega) (by omega) (by omega) hn.2) ?_)
    rintro r w11 ⟨rfl, hbel⟩
    have hs1 : UpM M9 w10 M9 w11 := UpM.of_below hbel
    replace hbl := hbl.up hs1
    replace hbs := hbs.up hs1
    replace hbr := hbr.up hs1
    replace hJ := hJ.up hs1
    clear hs1 hbel
    (repeat (first | refine rl_nil ?_ | fail))
    refine run_ifb rfl (fun hb => ?_) (fun hb => ?_)
    · have hlt : n.toNat < bd.length := by
        rcases Nat.lt_or_ge n.toNat bd.length with h' | h'
        · exact h'
        · rw [List.getElem?_eq_none h'] at hb; cases hb
      rw [List.getElem?_eq_getElem hlt] at hb
      simp only at hb
      rw [List.drop_eq_getElem_cons hlt, fillM, if_pos hb] at hfill
      rw [sumR_drop notes bd _ hlt] at hsum
      have hfb := fits_bd hb hs.1 (fun e => by have := hs0 e; omega)
      have hmr : ∀ i ∈ bd[n.toNat].notes, 0 ≤ i ∧ i < notes.length := fun i hi => hJ.hr i (mem_refs hlt hi)
      (repeat (first | refine run_seq ?_ | refine run_region_l ?_ | refine run_block ?_ | refine run_skip ?_ | fail))
      refine rl_step (by decide) (op_load1 tdSL rfl hJ.bb rfl ?_)
      refine rl_step (by decide) (op_load1 tdI rfl hbl rfl ?_)
      refine rl_step (by decide) (op_indexAddr uL teL rfl rfl hJ.sb (by omega) ?_)
      intro ad _ he
      refine rl_step (by decide) (op_fieldAddr fdL3 rfl ?_)
      refine rl_step (by decide) (op_load teSI rfl he.line.2.2.2 ?_)
      intro vl hvl
      rw [eSl_V] at hvl
      refine rl_step (by decide) (op_len uI rfl hvl ?_)
      clear he
      generalize hL : bd[n.toNat].notes = L at hvl hfill hsum hfb hmr
      (repeat (first | refine rl_nil ?_ | refine rl_step (by decide) (op_move rfl ?_) | refine run_block ?_ | fail))
      have hnot : ∀ j, j ≤ L.length → q1.length + ((L.take j).flatMap (noteAt notes)).length ≤ 2000000 := fun j _ => by
        have := flat_take_le (noteAt notes) L j
        omega
      have hlL := hvl.le
      refine (run_loop (α := Nat × List Line × Value × Mut) (fun x => [(1, vn), (3, ptr bb), (5, ptr bh), (9, vp), (10, ptr bq), (11, ptr bl), (12, ptr bs), (13, ptr br), (14, .func (.func 44) #[] #[ptr bl, ptr bb, ptr br, ptr bs, ptr bq]), (46, vl), (47, .int .i64 L.length), (48, .int .i64 x.1)])
        (fun x w' => x.1 ≤ L.length ∧ PgJ M w h notes vn bb bh bq x.2.2.2 w' bd x.2.1 ps vb x.2.2.1 vp ∧ Box x.2.2.2 w' bl 11 [.int .i64 n] 3 ∧ Box x.2.2.2 w' bs 12 [.int .i64 s] 3 ∧
          Box x.2.2.2 w' br 13 [.func (.func 43) #[] #[ptr bh, ptr bl, ptr bs]] 76 ∧ SlOf eI x.2.2.2 w' vl L ∧ x.2.1 = q1 ++ (L.take x.1).flatMap (noteAt notes))
        (fun x => L.length - x.1) (0, q1, vq1, M9) ⟨Nat.zero_le _, hJ, hbl, hbs, hbr, hvl, by simp⟩ ?_).sub (by repeat (first | exact trivial | refine ⟨rfl, ?_⟩))
      clear hJ hbl hbs hbr hvl
      rintro ⟨j, q2, vq2, M10⟩ w12 ⟨hj, hJ, hbl, hbs, hbr, hvl, hq2⟩ ih3
      simp only at hj hJ hbl hbs hbr hvl hq2 ih3
      try dsimp only
      (repeat (first | refine run_seq ?_ | refine run_region_l ?_ | refine rl_nil ?_ | refine rl_step (by decide) (op_lss rfl rfl ?_) | fail))
      refine run_if rfl (fun hlt2 => ?_) (fun hlt2 => ?_)
      · have hj' : j < L.length := by omega
        have hmr' := hmr L[j] (List.getElem_mem hj')
        have hnl := hnot (j + 1) (by omega)
        rw [flat_take _ _ _ hj', List.length_append] at hnl
        (repeat (first | refine run_seq ?_ | refine run_region_l ?_ | refine run_block ?_ | refine run_skip ?_ | fail))
        refine rl_step (by decide) (op_indexAddr uI teI rfl rfl hvl (by omega) ?_)
        intro ad2 _ he2
        refine rl_step (by decide) (op_load teI rfl he2 ?_)
        intro u hu
        rw [eI_V] at hu
        obtain ⟨rfl, hu5⟩ := hu
        simp only [Int.toNat_natCast]
        (repeat (first | refine rl_nil ?_ | refine rl_step (by decide) (op_assign rfl ?_) | fail))
        refine region_dr (M := M10) 5 2 [] mixed rfl (by kernel_rfl) (fun w1 hs1 => ?_)
        replace hbl := hbl.up hs1
        replace hbs := hbs.up hs1
        replace hbr := hbr.up hs1
        replace hvl := hvl.mono hs1.x
        replace hJ := hJ.up hs1
        clear hs1 he2
        refine dr_cons (isv vq2) (by decide) (mono_isv _) (ob0 rfl fun M w' hs => opg (op_load1 tdSL rfl (hJ.bq.up hs) rfl ⟨_, UpM.refl _ _, rfl⟩)) ?_
        refine dr_cons (isv _) (by decide) (mono_isv _) (ob0 rfl fun M w hs => opg (op_move rfl ⟨_, UpM.refl _ _, rfl⟩)) ?_
        refine dr_cons (isv _) (by decide) (mono_isv _) (ob0 rfl fun M w hs => opg (op_move rfl ⟨_, UpM.refl _ _, rfl⟩)) ?_
        refine dr_cons (isPtr (eSl eLine) (noteAt notes L[j])) (by decide) (mono_isPtr _ _) (ob2 rfl fun M w' hs2 v1 h1 v2 h2 => ?_) ?_
        · cases h1; cases h2
          refine opg (op_indexAddr uLL teSL rfl rfl (hJ.sn.mono hs2.x) hmr' ?_)
          intro ad3 hn3 he3
          exact ⟨_, UpM.refl _ _, ad3, rfl, by rw [noteAt_get hn3]; exact he3⟩
        refine dr_cons (isSl eLine (noteAt notes L[j])) (by decide) (mono_isSl _ _) (ob1 rfl fun M w' hs2 v1 h1 => ?_) ?_
        · obtain ⟨ad3, rfl, he3⟩ := h1
          exact opg (op_load teSL rfl he3 fun u hu => ⟨_, UpM.refl _ _, eSl_V.1 hu⟩)
        refine dr_nil rfl (fun M11 w14 val hs2 hall2 => ?_)
        obtain ⟨h56, _, _, _, h52, _⟩ := hall2
        have e52 : val 52 = _ := h52
        replace hbl := hbl.up hs2
        replace hbs := hbs.up hs2
        replace hbr := hbr.up hs2
        replace hvl := hvl.mono hs2.x
        replace hJ := hJ.up hs2
        refine RT.sub (fr' := [(1, vn), (3, ptr bb), (5, ptr bh), (9, vp), (10, ptr bq), (11, ptr bl), (12, ptr bs), (13, ptr br), (14, .func (.func 44) #[] #[ptr bl, ptr bb, ptr br, ptr bs, ptr bq]), (46, vl), (47, .int .i64 L.length), (48, .int .i64 j), (52, val 52), (56, val 56)]) ?_ (by repeat (first | exact trivial | refine ⟨rfl, ?_⟩))
        rw [e52]
        generalize val 56 = v56 at h56
        clear hs2 h52 e52
        refine rt_one (i := 5) (by kernel_rfl) rfl (by decide) (op_append (E := eLine) (tag := 4) uL teL rfl rfl hJ.rn hJ.sq hJ.gq h56 (by rw [hq2, List.length_append]; show _ * 64 ≤ _; omega) ?_)
        intro vq3 w15 M12 hsq hgq hst
        obtain ⟨a3, c3, q3, _⟩ := hsq.ex
        refine rt_one0 (i := 6) (by kernel_rfl) rfl (op_store (c := [vq3]) tdSL rfl rfl (by rw [q3]; rfl) (by rw [q3]; simp [Value.oneCell']) rfl (hJ.rn.st hst) hBq (hJ.bq.st hst (by decide)) (by simp) ?_)
        intro w16 hbq hst2
        have hJ' : PgJ M w h notes vn bb bh bq M12 w16 bd (q2 ++ noteAt notes L[j]) ps vb vq3 vp :=
          ⟨(hJ.rn.st hst).st hst2, (hJ.bb.st hst (by decide)).st hst2 (by decide), (hJ.bh.st hst (by decide)).st hst2 (by decide), hbq, (hJ.sb.mono hst.x).mono hst2.x, hsq.mono hst2.x, hgq.st hst2 (by decide),
            (hJ.sp.mono hst.x).mono hst2.x, (hJ.gp.st hst (by decide)).st hst2 (by decide), (hJ.sn.mono hst.x).mono hst2.x, hJ.hr⟩
        replace hbl := (hbl.st hst (by decide)).st hst2 (by decide)
        replace hbs := (hbs.st hst (by decide)).st hst2 (by decide)
        replace hbr := (hbr.st hst (by decide)).st hst2 (by decide)
        replace hvl := (hvl.mono hst.x).mono hst2.x
        refine rt_nil (by kernel_rfl) ?_
        (repeat (first | refine run_region_l ?_ | refine rl_nil ?_ | refine rl_step (by decide) (op_move rfl ?_) | refine run_inBlock ?_ | refine rl_step (by decide) (op_add rfl rfl (by omega) ?_) | fail))
        exact (ih3 (j + 1, _, _, _) _ ⟨by show j + 1 ≤ _; omega, hJ', hbl, hbs, hbr, hvl, by show _ = _; rw [hq2, flat_take _ _ _ hj', List.append_assoc]⟩ (by show _ - (j + 1) < _ - j; omega)).sub (by repeat (first | exact trivial | refine ⟨rfl, ?_⟩))
      · have hjL : j = L.length := by omega
        subst hjL
        rw [List.take_length] at hq2
        have hq2l : q2.length = q1.length + (L.flatMap (noteAt notes)).length := by rw [hq2, List.length_append]
        have hgb := growM_bd h (n + 1) s q2.length hs.1 (by omega) hfb.1 (fun e1 e2 => by
          rcases hfb.2 with h3 | h3
          · have := hs0 e1
            rw [h3] at hq2l
            simp at hq2l
            omega
          · omega)
        rw [← hq2] at hfill
        (repeat (first | refine run_seq ?_ | refine run_region_l ?_ | refine run_exit rfl ?_ | fail))
        refine rl_step (by decide) (op_load1 tdI rfl hbl rfl ?_)
        (repeat (first | refine rl_step (by decide) (op_add rfl rfl (by omega) ?_) | fail))
        refine rl_step0 (op_store (c := [.int .i64 (n + 1)]) tdI rfl rfl rfl (by simp [Value.oneCell']) rfl hJ.rn hBl hbl (by simp) ?_)
        intro w13 hbl hst
        replace hbl : Box M10 w13 bl 11 [.int .i64 (n + 1)] 3 := hbl
        replace hbs := hbs.st hst (by decide)
        replace hbr := hbr.st hst (by decide)
        replace hJ := hJ.st hst (by decide)
        clear hst hvl
        (repeat (first | refine run_seq ?_ | refine run_region_l ?_ | refine rl_nil ?_ | fail))
        refine rl_step (by decide) (op_load1 tdSL rfl hJ.bq rfl ?_)
        refine rl_step (by decide) (op_len uL rfl hJ.sq ?_)
        refine rl_step (by decide) (op_load1 tdI rfl hbs rfl ?_)
        (repeat (first | refine run_seq ?_ | refine run_region_l ?_ | refine rl_nil ?_ | refine rl_step (by decide) (op_move rfl ?_) | refine rl_step (by decide) (op_assign rfl ?_) | refine rl_step (by decide) (op_gtr rfl rfl ?_) | refine rl_step (by decide) (op_sub rfl rfl (by omega) ?_) | fail))
        refine run_if rfl (fun hmore => ?_) (fun hmore => ?_)
        · (repeat (first | refine run_seq ?_ | fail))
          refine region_dr (M := M10) 10 1 [] mixed rfl (by kernel_rfl) (fun w1 hs1 => ?_)
          replace hbl := hbl.up hs1
          replace hbs := hbs.up hs1
          replace hbr := hbr.up hs1
          replace hJ := hJ.up hs1
          clear hs1
          refine dr_cons (isv (.int .i64 s)) (by decide) (mono_isv _) (ob0 rfl fun M w' hs2 => opg (op_load1 tdI rfl (hbs.up hs2) rfl ⟨_, UpM.refl _ _, rfl⟩)) ?_
          refine dr_cons (isv _) (by decide) (mono_isv _) (ob0 rfl fun M w hs => opg (op_move rfl ⟨_, UpM.refl _ _, rfl⟩)) ?_
          refine dr_cons (isv (.func (.func 43) #[] #[ptr bh, ptr bl, ptr bs])) (by decide) (mono_isv _) (ob0 rfl fun M w' hs2 => opg (op_load1 tdF rfl (hbr.up hs2) rfl ⟨_, UpM.refl _ _, rfl⟩)) ?_
          refine dr_cons (isv (.int .i64 (h - (n + 1) - s - min s 1))) (by decide) (mono_isv _) (ob1 rfl fun M w' hs2 v1 k1 => ?_) ?_
          · cases k1
            refine opg (op_callv (cap := [ptr bh, ptr bl, ptr bs]) ent43 rfl rfl (room_c M w' bh bl bs 5 11 12 h (n + 1) s (hJ.bh.up hs2) (hbl.up hs2) (hbs.up hs2) (by omega) (by omega) (by omega)) ?_)
            rintro r w1 ⟨rfl, rfl⟩
            exact ⟨_, UpM.refl _ _, rfl⟩
          refine dr_cons (isv (.int .i64 (h - (n + 1) - s - min s 1 - 1))) (by decide) (mono_isv _) (ob1 rfl fun M w' hs2 v1 k1 => ?_) ?_
          · cases k1; exact opg (op_sub rfl rfl (by omega) ⟨_, UpM.refl _ _, rfl⟩)
          refine dr_cons (isv (.int .i64 s)) (by decide) (mono_isv _) (ob0 rfl fun M w' hs2 => opg (op_load1 tdI rfl (hbs.up hs2) rfl ⟨_, UpM.refl _ _, rfl⟩)) ?_
          refine dr_cons (isv (.int .i64 (min s 1))) (by decide) (mono_isv _) (ob1 rfl fun M w' hs2 v1 k1 => ?_) ?_
          · cases k1; exact opg (op_min rfl rfl ⟨_, UpM.refl _ _, rfl⟩)
          refine dr_cons (isv (.int .i64 (h - (n + 1) - s - min s 1 - 1 + min s 1))) (by decide) (mono_isv _) (ob2 rfl fun M w' hs2 v1 k1 v2 k2 => ?_) ?_
          · cases k1; cases k2; exact opg (op_add rfl rfl (by omega) ⟨_, UpM.refl _ _, rfl⟩)
          refine dr_cons (isv (.int .i64 (min (q2.length - s) (h - (n + 1) - s - min s 1 - 1 + min s 1)))) (by decide) (mono_isv _) (ob2 rfl fun M w' hs2 v1 k1 v2 k2 => ?_) ?_
          · cases k1; cases k2; exact opg (op_min rfl rfl ⟨_, UpM.refl _ _, rfl⟩)
          refine dr_cons (isv (.int .i64 (s + min (q2.length - s) (h - (n + 1) - s - min s 1 - 1 + min s 1)))) (by decide) (mono_isv _) (ob2 rfl fun M w' hs2 v1 k1 v2 k2 => ?_) ?_
          · cases k1; cases k2; exact opg (op_add rfl rfl (by omega) ⟨_, UpM.refl _ _, rfl⟩)
          refine dr_nil rfl (fun M11 w14 val hs2 hall2 => ?_)
          obtain ⟨h76, _⟩ := hall2
          have e76 : val 76 = _ := h76
          replace hbl := hbl.up hs2
          replace hbs := hbs.up hs2
          replace hbr := hbr.up hs2
          replace hJ := hJ.up hs2
          have hg : growM h (n + 1) s q2.length = s + min (q2.length - s) (h - (n + 1) - s - min s 1 - 1 + min s 1) := if_pos hmore
          rw [← hg] at e76
          refine RT.sub (fr' := [(1, vn), (3, ptr bb), (5, ptr bh), (9, vp), (10, ptr bq), (11, ptr bl), (12, ptr bs), (13, ptr br), (14, .func (.func 44) #[] #[ptr bl, ptr bb, ptr br, ptr bs, ptr bq]), (76, val 76)]) ?_ (by repeat (first | exact trivial | refine ⟨rfl, ?_⟩))
          rw [e76]
          clear hs2 h76 e76 hg
          refine rt_one0 (i := 10) (by kernel_rfl) rfl (op_store (c := [.int .i64 (growM h (n + 1) s q2.length)]) tdI rfl rfl rfl (by simp [Value.oneCell']) rfl hJ.rn hBs hbs (by simp) ?_)
          intro w15 hbs hst
          replace hbs : Box M11 w15 bs 12 [.int .i64 (growM h (n + 1) s q2.length)] 3 := hbs
          replace hbl := hbl.st hst (by decide)
          replace hbr := hbr.st hst (by decide)
          replace hJ := hJ.st hst (by decide)
          refine rt_nil (by kernel_rfl) ?_
          (repeat (first | refine run_inBlock ?_ | fail))
          generalize growM h (n + 1) s q2.length = s' at hgb hfill hbs
          refine (ih2 ⟨n + 1, s', q2, vq2, M11⟩ _ ⟨hJ, hbl, hbs, hbr, ⟨by simp only; omega, by simp only; omega⟩, ⟨by simp only; omega, hgb.2.1⟩, hgb.2.2.1, by simp only; omega, ?_, by simp only; omega, by simp only; omega, ?_⟩ (by simp only; omega)).sub (by repeat (first | exact trivial | refine ⟨rfl, ?_⟩))
          · simp only
            rw [show (n + 1).toNat = n.toNat + 1 by omega]
            omega
          · simp only
            rw [show (n + 1).toNat = n.toNat + 1 by omega]
            exact hfill
        · (repeat (first | refine run_inBlock ?_ | refine run_skip ?_ | fail))
          have hg : growM h (n + 1) s q2.length = s := if_neg hmore
          rw [hg] at hgb hfill
          refine (ih2 ⟨n + 1, s, q2, vq2, M10⟩ _ ⟨hJ, hbl, hbs, hbr, ⟨by simp only; omega, by simp only; omega⟩, ⟨hs.1, hgb.2.1⟩, hgb.2.2.1, by simp only; omega, ?_, hmin, by simp only; omega, ?_⟩ (by simp only; omega)).sub (by repeat (first | exact trivial | refine ⟨rfl, ?_⟩))
          · simp only
            rw [show (n + 1).toNat = n.toNat + 1 by omega]
            omega
          · simp only
            rw [show (n + 1).toNat = n.toNat + 1 by omega]
            exact hfill
    · (repeat (first | refine run_seq ?_ | refine run_exit rfl ?_ | fail))
      have hprog : 0 < n + s := by
        rcases Int.lt_or_eq_of_le hn.1 with h' | h'
        · omega
        · obtain ⟨e1, e2⟩ := hn0 h'.symm
          rcases Nat.eq_zero_or_pos q.length with h2 | h2
          · have hlt : n.toNat < bd.length := by omega
            rw [List.getElem?_eq_getElem hlt] at hb
            simp only at hb
            have h3 : s = 0 := by omega
            generalize bd[n.toNat] = x at hb
            rw [← h', h3, e2, h2, show ((0 : Nat) : Int) = 0 from rfl] at hb
            rw [fits_first x hh1] at hb
            cases hb
          · omega
      have hfin : fillM h notes bd 0 q (min q.length (h - 1)) = (n, q1, s) := by
        rw [← hfill]
        rcases Nat.lt_or_ge n.toNat bd.length with h' | h'
        · rw [List.getElem?_eq_getElem h'] at hb
          simp only at hb
          rw [List.drop_eq_getElem_cons h', fillM, hb]
          rfl
        · rw [List.drop_eq_nil_of_le h', fillM]
      have hset : ∃ f', f = f' + 1 ∧ setM h notes f bd q = ⟨0, 0, 0, 0, bd.take n.toNat, q1.take s.toNat⟩ :: setM h notes f' (bd.drop n.toNat) (q1.drop s.toNat) := by
        refine ⟨f - 1, by omega, ?_⟩
        have hne : (bd.isEmpty && q.isEmpty) = false := by
          rw [Bool.and_eq_false_iff]
          rcases Nat.eq_zero_or_pos bd.length with h1 | h1
          · right
            cases q with
            | nil => simp at hne'; omega
            | cons => rfl
          · left
            cases bd with
            | nil => simp at h1
            | cons => rfl
        rw [show f = (f - 1) + 1 by omega, setM, hne, hfin]
        simp
      obtain ⟨f', rfl, hset⟩ := hset
      rw [hset, List.append_cons] at hall
      clear hb hfill hset hfin hn0
      refine region_dr (M := M9) 11 2 [] mixed rfl (by kernel_rfl) (fun w1 hs1 => ?_)
      replace hbl := hbl.up hs1
      replace hbs := hbs.up hs1
      replace hJ := hJ.up hs1
      clear hs1 hbr
      refine dr_cons (isv _) (by decide) (mono_isv _) (ob0 rfl fun M w hs => opg (op_move rfl ⟨_, UpM.refl _ _, rfl⟩)) ?_
      refine dr_cons (isv vb) (by decide) (mono_isv _) (ob0 rfl fun M w' hs2 => opg (op_load1 tdSL rfl (hJ.bb.up hs2) rfl ⟨_, UpM.refl _ _, rfl⟩)) ?_
      refine dr_cons (isv (.int .i64 n)) (by decide) (mono_isv _) (ob0 rfl fun M w' hs2 => opg (op_load1 tdI rfl (hbl.up hs2) rfl ⟨_, UpM.refl _ _, rfl⟩)) ?_
      refine dr_cons (isSl eLine (bd.take n.toNat)) (by decide) (mono_isSl _ _) (ob2 rfl fun M w' hs2 v1 k1 v2 k2 => ?_) ?_
      · cases k1; cases k2
        exact opg (op_slice_h uL teL rfl rfl (hJ.sb.mono hs2.x) hn fun u hu => ⟨_, UpM.refl _ _, hu⟩)
      refine dr_cons (isSl eLine (bd.take n.toNat)) (by decide) (mono_isSl _ _) (ob1 rfl fun M w' hs2 v1 k1 => ?_) ?_
      · exact opg (op_call ent45 rfl (clone_c M _ _ _ (hs2.mb hJ.rn.mb) k1) fun u w2 hu => ⟨_, UpM.of_below hu.1, hu.2⟩)
      refine dr_cons (isv vq1) (by decide) (mono_isv _) (ob0 rfl fun M w' hs2 => opg (op_load1 tdSL rfl (hJ.bq.up hs2) rfl ⟨_, UpM.refl _ _, rfl⟩)) ?_
      refine dr_cons (isv (.int .i64 s)) (by decide) (mono_isv _) (ob0 rfl fun M w' hs2 => opg (op_load1 tdI rfl (hbs.up hs2) rfl ⟨_, UpM.refl _ _, rfl⟩)) ?_
      refine dr_cons (isSl eLine (q1.take s.toNat)) (by decide) (mono_isSl _ _) (ob2 rfl fun M w' hs2 v1 k1 v2 k2 => ?_) ?_
      · cases k1; cases k2
        exact opg (op_slice_h uL teL rfl rfl (hJ.sq.mono hs2.x) hs fun u hu => ⟨_, UpM.refl _ _, hu⟩)
      refine dr_cons (isSl eLine (q1.take s.toNat)) (by decide) (mono_isSl _ _) (ob1 rfl fun M w' hs2 v1 k1 => ?_) ?_
      · exact opg (op_call ent45 rfl (clone_c M _ _ _ (hs2.mb hJ.rn.mb) k1) fun u w2 hu => ⟨_, UpM.of_below hu.1, hu.2⟩)
      refine dr_cons (isV ePg ⟨0, 0, 0, 0, bd.take n.toNat, q1.take s.toNat⟩) (by decide) (mono_isV _ _) (ob2 rfl fun M w' hs2 v1 k1 v2 k2 => ?_) ?_
      · obtain ⟨a1, c1, q1', _⟩ := SlOf.ex k1
        obtain ⟨a2, c2, q2', _⟩ := SlOf.ex k2
        refine opg (op_build (parts := [(3, .tmp 81), (4, .tmp 85)]) (vs := [v1, v2]) (pl := [(4, [v1]), (5, [v2])]) sbP rfl ⟨rfl, by rw [q1']; rfl, Nat.le_of_ble_eq_true rfl, rfl, by rw [q2']; rfl, Nat.le_of_ble_eq_true rfl, trivial⟩ ⟨_, UpM.refl _ _, ?_⟩)
        exact ePg_V.2 ⟨v1, v2, rfl, ⟨by unfold I64; simp, by unfold I64; simp, by unfold I64; simp, by unfold I64; simp⟩, k1, k2⟩
      refine dr_cons (isSl ePg [⟨0, 0, 0, 0, bd.take n.toNat, q1.take s.toNat⟩]) (by decide) (mono_isSl _ _) (ob1 rfl fun M w' hs2 v1 k1 => ?_) ?_
      · exact opg (op_buildSlice (E := ePg) (n := 1) (parts := [(0, .tmp 86)]) (vs := [v1]) (l := [⟨0, 0, 0, 0, bd.take n.toNat, q1.take s.toNat⟩]) uP teP (hJ.rn.up hs2) rfl rfl ⟨k1, trivial⟩ rfl ⟨by simp [ePg, Enc.via, Enc.app, eSl, eN], by simp [ePg, Enc.via]⟩ fun u w2 hu _ hbel => ⟨_, UpM.of_below hbel, hu⟩)
      refine dr_nil rfl (fun M11 w14 val hs2 hall2 => ?_)
      obtain ⟨h87, _, _, _, _, _, _, _, _, _, h77, _⟩ := hall2
      have e77 : val 77 = _ := h77
      replace hbl := hbl.up hs2
      replace hbs := hbs.up hs2
      replace hJ := hJ.up hs2
      refine RT.sub (fr' := [(1, vn), (3, ptr bb), (5, ptr bh), (10, ptr bq), (11, ptr bl), (12, ptr bs), (77, val 77), (87, val 87)]) ?_ (by repeat (first | exact trivial | refine ⟨rfl, ?_⟩))
      rw [e77]
      generalize val 87 = v87 at h87
      clear hs2 h77 e77
      refine rt_one (i := 11) (by kernel_rfl) rfl (by decide) (op_append (E := ePg) (tag := 9) uP teP rfl rfl hJ.rn hJ.sp hJ.gp h87 (by show (ps.length + 1) * 80 ≤ _; omega) ?_)
      intro vp2 w15 M12 hsp hgp hst
      replace hbl := hbl.st hst (by decide)
      replace hbs := hbs.st hst (by decide)
      have hJ : PgJ M w h notes vn bb bh bq M12 w15 bd q1 _ vb vq1 vp2 :=
        ⟨hJ.rn.st hst, hJ.bb.st hst (by decide), hJ.bh.st hst (by decide), hJ.bq.st hst (by decide), hJ.sb.mono hst.x, hJ.sq.mono hst.x, hJ.gq.st hst (by decide),
          hsp, hgp, hJ.sn.mono hst.x, hJ.hr⟩
      clear hst hsp hgp h87
      refine rt_one (i := 12) (by kernel_rfl) rfl (by decide) (op_assign rfl ?_)
      refine rt_nil (by kernel_rfl) ?_
      (repeat (first | refine run_seq ?_ | fail))
      refine region_dg (M := M12) (relW_ok w.heap.size) { tag := [none, none, none, none, none, none, some 3], pre := [[], [], [], [3], [3], [3], []], oth := [[3], [3], [3], [3], [3], [3], []] } 7 1 [] mixed rfl (by kernel_rfl) (fun w16 hs1 => ?_)
      replace hbl := hbl.up hs1
      replace hbs := hbs.up hs1
      replace hJ := hJ.up hs1
      clear hs1
      refine dg_cons (isv vb) (by decide) (fun _ _ _ _ _ _ h => h) (og0 rfl fun M w' hs2 => opg (op_load1 tdSL rfl (hJ.bb.stw hs2 (nin rfl)) rfl ⟨_, (relW_ok _).refl _ _, rfl⟩)) ?_
      refine dg_cons (isv (.int .i64 n)) (by decide) (fun _ _ _ _ _ _ h => h) (og0 rfl fun M w' hs2 => opg (op_load1 tdI rfl (hbl.stw hs2 (nin rfl)) rfl ⟨_, (relW_ok _).refl _ _, rfl⟩)) ?_
      refine dg_cons (isSl eLine (bd.drop n.toNat)) (by decide) (fun _ _ _ _ _ s h => h.mono s.x) (og2 rfl fun M w' hs2 v1 k1 v2 k2 => ?_) ?_
      · cases k1; cases k2
        exact opg (op_slice_l uL teL rfl rfl (hJ.sb.mono hs2.x) hn fun u hu => ⟨_, (relW_ok _).refl _ _, hu⟩)
      refine dg_cons (isv vq1) (by decide) (fun _ _ _ _ _ _ h => h) (og0 rfl fun M w' hs2 => opg (op_load1 tdSL rfl (hJ.bq.stw hs2 (nin rfl)) rfl ⟨_, (relW_ok _).mono (by simp) ((relW_ok _).refl _ _), rfl⟩)) ?_
      refine dg_cons (isv (.int .i64 s)) (by decide) (fun _ _ _ _ _ _ h => h) (og0 rfl fun M w' hs2 => opg (op_load1 tdI rfl (hbs.stw hs2 (nin rfl)) rfl ⟨_, (relW_ok _).mono (by simp) ((relW_ok _).refl _ _), rfl⟩)) ?_
      refine dg_cons (fun M w' v => SlOf eLine M w' v (q1.drop s.toNat) ∧ Grow w.heap.size M w' v (q1.drop s.toNat).length 4 4 42) (by decide) (fun _ _ _ _ _ s h => ⟨h.1.mono s.x, h.2.stw s (nin rfl)⟩) (og2 rfl fun M w' hs2 v1 k1 v2 k2 => ?_) ?_
      · cases k1; cases k2
        exact opg (op_slice_lG uL teL rfl rfl (hJ.sq.mono hs2.x) (hJ.gq.stw hs2 (nin rfl)) hs fun u hu hu2 => ⟨_, (relW_ok _).mono (by simp) ((relW_ok _).refl _ _), hu, hu2⟩)
      refine dg_cons0 (fun M w' => ∃ v, Box M w' bb 3 [v] 33 ∧ SlOf eLine M w' v (bd.drop n.toNat)) (fun _ _ _ _ _ s ⟨v, h1, h2⟩ => ⟨v, h1.stw s (nin rfl), h2.mono s.x⟩) (og1 rfl fun M w' hs2 v1 k1 => ?_) ?_
      · refine opg (op_store (c := [v1]) tdSL rfl rfl (by obtain ⟨_, _, q, _⟩ := SlOf.ex k1; rw [q]; rfl) (by obtain ⟨_, _, q, _⟩ := SlOf.ex k1; rw [q]; simp [Value.oneCell']) rfl (hJ.rn.stw hs2) hBb (hJ.bb.stw hs2 (nin rfl)) (by simp) fun w2 h1 h2 => ⟨_, StW.st h2, v1, h1, ?_⟩)
        exact SlOf.mono k1 h2.x
      refine dg_nil rfl (fun M13 w17 val hs2 hall2 => ?_)
      obtain ⟨⟨vb', hbb', hsb'⟩, ⟨hsq', hgq'⟩, _⟩ := hall2
      have e94 : SlOf eLine M13 w17 (val 94) (q1.drop s.toNat) := hsq'
      replace hgq' : Grow w.heap.size M13 w17 (val 94) (q1.drop s.toNat).length 4 4 42 := hgq'
      refine RT.sub (fr' := [(1, vn), (3, ptr bb), (5, ptr bh), (9, vp2), (10, ptr bq), (94, val 94)]) ?_ (by repeat (first | exact trivial | refine ⟨rfl, ?_⟩))
      generalize val 94 = vq' at e94 hgq'
      obtain ⟨aq, cq, qq, _⟩ := SlOf.ex e94
      refine rt_one0 (i := 7) (by kernel_rfl) rfl (op_store (c := [vq']) tdSL rfl rfl (by rw [qq]; rfl) (by rw [qq]; simp [Value.oneCell']) rfl (hJ.rn.stw hs2) hBq (hJ.bq.stw hs2 (nin rfl)) (by simp) ?_)
      intro w18 hbq hst
      replace hbq : Box M13 w18 bq 10 [vq'] 33 := hbq
      have hJ : PgJ M w h notes vn bb bh bq M13 w18 (bd.drop n.toNat) (q1.drop s.toNat) (ps ++ [⟨0, 0, 0, 0, bd.take n.toNat, q1.take s.toNat⟩]) vb' vq' vp2 :=
        ⟨(hJ.rn.stw hs2).st hst, hbb'.st hst (by decide), (hJ.bh.stw hs2 (nin rfl)).st hst (by decide), hbq, hsb'.mono hst.x, e94.mono hst.x, hgq'.st hst (by decide),
          (hJ.sp.mono hs2.x).mono hst.x, by simpa using (hJ.gp.stw hs2 (nin rfl)).st hst (by decide), (hJ.sn.mono hs2.x).mono hst.x, fun i hi => hJ.hr i (refs_sub hi)⟩
      refine rt_nil (by kernel_rfl) ?_
      clear hst hs2 hbq hsq' hgq' e94
      (repeat (first | refine run_inBlock ?_ | fail))
      have hd1 : (bd.drop n.toNat).length = bd.length - n.toNat := List.length_drop
      have hd2 : (q1.drop s.toNat).length = q1.length - s.toNat := List.length_drop
      refine (ih ⟨f', bd.drop n.toNat, q1.drop s.toNat, ps ++ [⟨0, 0, 0, 0, bd.take n.toNat, q1.take s.toNat⟩], vb', vq', vp2, M13⟩ _ ⟨hJ, ?_, ?_, hall⟩ ?_).sub (by repeat (first | exact trivial | refine ⟨rfl, ?_⟩))
      · simp only [List.length_append, List.length_cons, List.length_nil]
        omega
      · simp only
        omega
      · simp only
        omega
end Go.Proofs.YtocoinkhbjlbhaaDoor
end

section
namespace Go.Proofs.YtocoinkhbjlbhaaDoor
open Go Go.RowKit
def usedM (p : Pg) : Int := p.body.length + p.notes.length + min (p.notes.length : Int) 1
theorem pg_len {M : Mut} {w : World} {v : Value} {l : List Line} (h : SlOf eLine M w v l) : (l.length : Int) ≤ 2199023255552 := by
  have := h.bytes
  have e : eLine.by_ = 64 := rfl
  rw [e] at this
  omega
theorem room_p (M : Mut) (w : World) (v : Value) (p : Pg) (h : Int) (hm : MB M w) (hv : ePg.V M w v p) (hh : -1152921504606846976 ≤ h ∧ h ≤ 1152921504606846976) :
    CallsV Tryd.prog 50 [v, .int .i64 h] w (fun u w' => u = .int .i64 (max (h - p.body.length - p.notes.length - min (p.notes.length : Int) 1) 0) ∧ Below w.heap.size w w') := by
  obtain ⟨b, n, rfl, _, hb, hn⟩ := ePg_V.1 hv
  have hr := Rn.refl hm
  have l1 := pg_len hb
  have l2 := pg_len hn
  refine callsV_of_run Tryd.func50 rfl Tryd.ntmps50 (Nat.le_of_ble_eq_true rfl) ?_
  (repeat (first | refine run_seq ?_ | refine run_region_l ?_ | fail))
  refine rl_step (by decide) (op_box (cs := [.int .i64 p.num, .int .i64 p.suf, .int .i64 p.entry, .int .i64 p.version, b, n]) 1 hr rfl rfl ?_)
  intro bp w1 M1 hB hbox hs
  replace hb := hb.mono hs.x
  replace hn := hn.mono hs.x
  replace hr := hr.up hs
  (repeat (first | refine run_seq ?_ | refine run_region_l ?_ | refine rl_nil ?_ | refine rl_step (by decide) (op_move rfl ?_) | refine rl_step (by decide) (op_assign rfl ?_) | fail))
  refine rl_step (by decide) (op_fieldBox fdP3 rfl ?_)
  refine rl_step (by decide) (op_load1 tdSL rfl hbox rfl ?_)
  refine rl_step (by decide) (op_len uL rfl hb ?_)
  (repeat (first | refine rl_step (by decide) (op_sub rfl rfl (by omega) ?_) | fail))
  refine rl_step (by decide) (op_fieldBox fdP4 rfl ?_)
  refine rl_step (by decide) (op_load1 tdSL rfl hbox rfl ?_)
  refine rl_step (by decide) (op_len uL rfl hn ?_)
  (repeat (first | refine rl_step (by decide) (op_sub rfl rfl (by omega) ?_) | fail))
  refine rl_step (by decide) (op_fieldBox fdP4 rfl ?_)
  refine rl_step (by decide) (op_load1 tdSL rfl hbox rfl ?_)
  refine rl_step (by decide) (op_len uL rfl hn ?_)
  (repeat (first | refine rl_nil ?_ | refine rl_step (by decide) (op_assign rfl ?_) | refine rl_step (by decide) (op_min rfl rfl ?_) | refine rl_step (by decide) (op_max rfl rfl ?_) | refine rl_step (by decide) (op_sub rfl rfl (by omega) ?_) | fail))
  refine run_ret1 Tryd.func50 rfl rfl ?_
  exact ⟨rfl, hr.bel⟩
theorem line_c (M : Mut) (w : World) (n : Int) (u : Value) (l : List Int) (hm : MB M w) (hu : SlOf eI M w u l) (hn : 0 ≤ n ∧ n ≤ 1000000) :
    CallsV Tryd.prog 47 [.int .i64 n, u] w (fun v w' => Below w.heap.size w w' ∧ eLine.V M w' v ⟨n, n + 1, [], l⟩) := by
  have hr := Rn.refl hm
  obtain ⟨a, c, rfl, _⟩ := SlOf.ex hu
  refine callsV_of_run Tryd.func47 rfl Tryd.ntmps47 (Nat.le_of_ble_eq_true rfl) ?_
  (repeat (first | refine run_seq ?_ | refine run_region_l ?_ | fail))
  refine rl_step (by decide) (op_alloc 1 hr tdL ?_)
  intro b w1 M1 hB hbox hs
  replace hu := hu.mono hs.x
  replace hr := hr.up hs
  (repeat (first | refine run_seq ?_ | refine run_region_l ?_ | refine rl_nil ?_ | refine rl_step (by decide) (op_move rfl ?_) | refine rl_step (by decide) (op_add rfl rfl (by omega) ?_) | fail))
  refine rl_step (by decide) (op_build (parts := [(0, .tmp 5), (1, .tmp 7), (3, .tmp 8)]) (vs := [.int .i64 n, .int .i64 (n + 1), .slice a l.length c]) (pl := [(0, [.int .i64 n]), (1, [.int .i64 (n + 1)]), (3, [.slice a l.length c])]) sbL rfl
    ⟨rfl, rfl, Nat.le_of_ble_eq_true rfl, rfl, rfl, Nat.le_of_ble_eq_true rfl, rfl, rfl, Nat.le_of_ble_eq_true rfl, trivial⟩ ?_)
  refine rl_step0 (op_store (c := [.int .i64 n, .int .i64 (n + 1), .slice none 0 0, .slice a l.length c]) tdL rfl rfl rfl (by simp [Value.oneCell']) rfl hr hB hbox (Nat.le_of_ble_eq_true rfl) ?_)
  intro w2 hbox hst
  replace hu := hu.mono hst.x
  replace hr := hr.st hst
  (repeat (first | refine rl_nil ?_ | fail))
  refine run_retc (cs := [.int .i64 n, .int .i64 (n + 1), .slice none 0 0, .slice a l.length c]) Tryd.func47 rfl rfl tdL hbox rfl ?_
  refine ⟨hr.bel, eLine_V.2 ⟨_, _, rfl, ?_, ?_, SlOf.nil _ _ _, hu.mono hr.fin⟩⟩ <;> (unfold I64; simp only; omega)
def linesM (a : Int) : Nat → List Line
  | 0 => []
  | k + 1 => linesM a k ++ [⟨a + k, a + k + 1, [], []⟩]
theorem linesM_len (a : Int) : ∀ k, (linesM a k).length = k
  | 0 => rfl
  | k + 1 => by rw [linesM, List.length_append, linesM_len a k]; rfl
theorem lines_c (M : Mut) (w : World) (a : Int) (k : Nat) (hm : MB M w) (ha : 0 ≤ a ∧ a ≤ 1000) (hk : k ≤ 1000) :
    CallsV Tryd.prog 48 [.int .i64 a, .int .i64 (a + k - 1)] w (fun v w' => Below w.heap.size w w' ∧ SlOf eLine M w' v (linesM a k)) := by
  have hr := Rn.refl hm
  refine callsV_of_run Tryd.func48 rfl Tryd.ntmps48 (Nat.le_of_ble_eq_true rfl) ?_
  (repeat (first | refine run_seq ?_ | refine run_region_l ?_ | refine rl_nil ?_ | refine rl_step (by decide) (op_move rfl ?_) | refine rl_step (by decide) (op_assign rfl ?_) | refine run_block ?_ | fail))
  refine (run_loop (α := Nat × Mut × Value) (fun x => [(1, .int .i64 (a + k - 1)), (5, x.2.2), (6, .int .i64 (a + x.1))])
    (fun x w' => x.1 ≤ k ∧ Rn M w x.2.1 w' ∧ SlOf eLine x.2.1 w' x.2.2 (linesM a x.1) ∧ Grow w.heap.size x.2.1 w' x.2.2 (linesM a x.1).length 4 5 42) (fun x => k - x.1) (0, M, .slice none 0 0) ⟨Nat.zero_le _, hr, SlOf.nil _ _ _, Grow.nil⟩ ?_).sub
      (by refine ⟨rfl, rfl, ?_, trivial⟩; simp [look])
  clear hr
  rintro ⟨j, M1, v⟩ w1 ⟨hj, hr, hs, hg⟩ ih
  simp only at hj hr hs hg ih
  try dsimp only
  (repeat (first | refine run_seq ?_ | refine run_region_l ?_ | refine rl_nil ?_ | refine rl_step (by decide) (op_move rfl ?_) | refine rl_step (by decide) (op_leq rfl rfl ?_) | fail))
  refine run_if rfl (fun hc => ?_) (fun hc => ?_)
  · (repeat (first | refine run_seq ?_ | refine run_region_l ?_ | refine rl_step (by decide) (op_move rfl ?_) | refine run_block ?_ | refine run_skip ?_ | fail))
    refine rl_step (by decide) (op_call ent47 rfl (line_c M1 w1 (a + j) (.slice none 0 0) [] hr.mb (SlOf.nil _ _ _) (by omega)) ?_)
    rintro u w2 ⟨hbel, hu⟩
    have hs1 : UpM M1 w1 M1 w2 := UpM.of_below hbel
    replace hs := hs.mono hs1.x
    replace hr := hr.up hs1
    replace hg := hg.up hs1
    refine rl_step (by decide) (op_buildSlice (E := eLine) (n := 1) (parts := [(0, .tmp 15)]) (vs := [u]) (l := [⟨a + j, a + j + 1, [], []⟩]) uL teL hr rfl rfl ⟨hu, trivial⟩ rfl ⟨Nat.le_of_ble_eq_true rfl, Nat.le_of_ble_eq_true rfl⟩ ?_)
    intro u2 w3 hu2 _ hbel2
    have hs2 : UpM M1 w2 M1 w3 := UpM.of_below hbel2
    replace hs := hs.mono hs2.x
    replace hr := hr.up hs2
    replace hg := hg.up hs2
    refine rl_step (by decide) (op_append (E := eLine) (tag := 5) uL teL rfl rfl hr hs hg hu2 (by rw [linesM_len]; show (j + 1) * 64 ≤ _; omega) ?_)
    intro v2 w4 M2 hs3 hg3 hst
    replace hr := hr.st hst
    (repeat (first | refine run_region_l ?_ | refine rl_nil ?_ | refine rl_step (by decide) (op_move rfl ?_) | refine rl_step (by decide) (op_assign rfl ?_) | refine run_inBlock ?_ | refine rl_step (by decide) (op_add rfl rfl (by omega) ?_) | fail))
    refine (ih (j + 1, M2, v2) w4 ⟨by omega, hr, hs3, hg3⟩ (by simp only; omega)).sub ?_
    refine ⟨rfl, rfl, ?_, trivial⟩
    simp [look, Int.add_assoc]
  · (repeat (first | refine run_seq ?_ | refine run_region_l ?_ | refine rl_nil ?_ | refine rl_step (by decide) (op_move rfl ?_) | refine rl_step (by decide) (op_assign rfl ?_) | refine run_exit rfl ?_ | fail))
    refine run_ret1 Tryd.func48 rfl rfl ?_
    rw [show j = k by omega] at hs
    exact ⟨hr.bel, hs.mono hr.fin⟩
theorem shape_c (M : Mut) (w : World) (v : Value) (p : Pg) (a b c d : Int) (hm : MB M w) (hv : ePg.V M w v p) (ha : 0 ≤ a ∧ a ≤ 1000) (hb : 0 ≤ b ∧ b ≤ 1000) (hc : 0 ≤ c ∧ c ≤ 1000) (hd : 0 ≤ d ∧ d ≤ 1000)
    (h1 : (p.body.length : Int) = b - a + 1) (h2 : (p.notes.length : Int) = d - c + 1) (h3 : p.body.map (·.frm) = (List.range p.body.length).map fun (i : Nat) => a + (i : Int)) (h4 : p.notes.map (·.frm) = (List.range p.notes.length).map fun (i : Nat) => c + (i : Int)) :
    CallsV Tryd.prog 49 [v, .int .i64 a, .int .i64 b, .int .i64 c, .int .i64 d] w (fun u w' => u = .bool true ∧ Below w.heap.size w w') := by
  obtain ⟨vb, vn, rfl, _, hsb, hsn⟩ := ePg_V.1 hv
  have hr := Rn.refl hm
  refine callsV_of_run Tryd.func49 rfl Tryd.ntmps49 (Nat.le_of_ble_eq_true rfl) ?_
  (repeat (first | refine run_seq ?_ | refine run_region_l ?_ | fail))
  refine rl_step (by decide) (op_box (cs := [.int .i64 p.num, .int .i64 p.suf, .int .i64 p.entry, .int .i64 p.version, vb, vn]) 1 hr rfl rfl ?_)
  intro bp w1 M1 hB hbox hs
  replace hsb := hsb.mono hs.x
  replace hsn := hsn.mono hs.x
  replace hr := hr.up hs
  (repeat (first | refine run_seq ?_ | refine run_region_l ?_ | refine rl_nil ?_ | refine rl_step (by decide) (op_assign rfl ?_) | fail))
  refine rl_step (by decide) (op_fieldBox fdP3 rfl ?_)
  refine rl_step (by decide) (op_load1 tdSL rfl hbox rfl ?_)
  refine rl_step (by decide) (op_len uL rfl hsb ?_)
  (repeat (first | refine rl_step (by decide) (op_move rfl ?_) | refine rl_step (by decide) (op_neq rfl rfl ?_) | refine rl_step (by decide) (op_add rfl rfl (by omega) ?_) | refine rl_step (by decide) (op_sub rfl rfl (by omega) ?_) | fail))
  refine rl_part 21 rfl (fun h => absurd h1 h) (fun _ => ?_)
  (repeat (first | refine rl_yes rfl rfl ?_ | fail))
  refine rl_step (by decide) (op_fieldBox fdP4 rfl ?_)
  (repeat (first | refine rl_yes rfl rfl ?_ | fail))
  refine rl_step (by decide) (op_load1 tdSL rfl hbox rfl ?_)
  (repeat (first | refine rl_yes rfl rfl ?_ | fail))
  refine rl_step (by decide) (op_len uL rfl hsn ?_)
  (repeat (first | refine rl_nil ?_ | refine rl_step (by decide) (op_move rfl ?_) | refine rl_yes rfl rfl ?_ | refine rl_step (by decide) (op_pick_f rfl rfl ?_) | refine rl_step (by decide) (op_neq rfl rfl ?_) | refine rl_step (by decide) (op_add rfl rfl (by omega) ?_) | refine rl_step (by decide) (op_sub rfl rfl (by omega) ?_) | fail))
  refine run_if rfl (fun h => absurd h2 h) (fun _ => ?_)
  (repeat (first | refine run_seq ?_ | refine run_region_l ?_ | refine rl_nil ?_ | refine rl_step (by decide) (op_assign rfl ?_) | refine run_block ?_ | refine run_skip ?_ | fail))
  refine (run_loop (α := Nat) (fun x => [(1, .int .i64 a), (3, .int .i64 c), (5, .pointer (some ⟨bp, 0, none⟩)), (11, .int .i64 x)])
    (fun x w' => x ≤ p.body.length ∧ w' = w1) (fun x => p.body.length - x) 0 ⟨Nat.zero_le _, rfl⟩ ?_).sub (by repeat (first | exact trivial | refine ⟨rfl, ?_⟩))
  rintro i wA ⟨hi, rfl⟩ ih
  try simp only at ih
  try dsimp only
  (repeat (first | refine run_seq ?_ | refine run_region_l ?_ | refine rl_step (by decide) (op_move rfl ?_) | fail))
  refine rl_step (by decide) (op_fieldBox fdP3 rfl ?_)
  refine rl_step (by decide) (op_load1 tdSL rfl hbox rfl ?_)
  refine rl_step (by decide) (op_len uL rfl hsb ?_)
  (repeat (first | refine rl_nil ?_ | refine rl_step (by decide) (op_lss rfl rfl ?_) | fail))
  refine run_if rfl (fun hlt => ?_) (fun hlt => ?_)
  · have hlt' : i < p.body.length := by omega
    (repeat (first | refine run_seq ?_ | refine run_region_l ?_ | refine run_block ?_ | refine run_skip ?_ | fail))
    refine rl_step (by decide) (op_fieldBox fdP3 rfl ?_)
    refine rl_step (by decide) (op_load1 tdSL rfl hbox rfl ?_)
    (repeat (first | refine rl_step (by decide) (op_move rfl ?_) | fail))
    refine rl_step (by decide) (op_indexAddr uL teL rfl rfl hsb (by omega) ?_)
    intro ad _ he
    refine rl_step (by decide) (op_fieldAddr fdL0 rfl ?_)
    refine rl_step (by decide) (op_load teI rfl he.line.1 ?_)
    intro u hu
    obtain ⟨rfl, _⟩ := eI_V.1 hu
    (repeat (first | refine rl_nil ?_ | refine rl_step (by decide) (op_move rfl ?_) | refine rl_step (by decide) (op_neq rfl rfl ?_) | refine rl_step (by decide) (op_add rfl rfl (by omega) ?_) | fail))
    have hf : p.body[i].frm = a + i := by
      have := congrArg (fun l : List Int => l[i]?) h3
      simp [hlt'] at this
      exact this
    refine run_if rfl (fun h => absurd (by simpa using hf) h) (fun _ => ?_)
    (repeat (first | refine run_region_l ?_ | refine rl_nil ?_ | refine rl_step (by decide) (op_move rfl ?_) | refine rl_step (by decide) (op_assign rfl ?_) | refine run_inBlock ?_ | refine run_skip ?_ | refine rl_step (by decide) (op_add rfl rfl (by omega) ?_) | fail))
    exact (ih (i + 1) _ ⟨by omega, rfl⟩ (by omega)).sub (by repeat (first | exact trivial | refine ⟨rfl, ?_⟩))
  (repeat (first | refine run_seq ?_ | refine run_region_l ?_ | refine rl_nil ?_ | refine rl_step (by decide) (op_assign rfl ?_) | refine run_block ?_ | refine run_exit rfl ?_ | fail))
  refine (run_loop (α := Nat) (fun x => [(3, .int .i64 c), (5, .pointer (some ⟨bp, 0, none⟩)), (12, .int .i64 x)])
    (fun x w' => x ≤ p.notes.length ∧ w' = wA) (fun x => p.notes.length - x) 0 ⟨Nat.zero_le _, rfl⟩ ?_).sub (by repeat (first | exact trivial | refine ⟨rfl, ?_⟩))
  clear ih hlt hi
  rintro i _ ⟨hi, rfl⟩ ih
  try simp only at ih
  try dsimp only
  (repeat (first | refine run_seq ?_ | refine run_region_l ?_ | refine rl_step (by decide) (op_move rfl ?_) | fail))
  refine rl_step (by decide) (op_fieldBox fdP4 rfl ?_)
  refine rl_step (by decide) (op_load1 tdSL rfl hbox rfl ?_)
  refine rl_step (by decide) (op_len uL rfl hsn ?_)
  (repeat (first | refine rl_nil ?_ | refine rl_step (by decide) (op_lss rfl rfl ?_) | fail))
  refine run_if rfl (fun hlt => ?_) (fun hlt => ?_)
  · have hlt' : i < p.notes.length := by omega
    (repeat (first | refine run_seq ?_ | refine run_region_l ?_ | refine run_block ?_ | refine run_skip ?_ | fail))
    refine rl_step (by decide) (op_fieldBox fdP4 rfl ?_)
    refine rl_step (by decide) (op_load1 tdSL rfl hbox rfl ?_)
    (repeat (first | refine rl_step (by decide) (op_move rfl ?_) | fail))
    refine rl_step (by decide) (op_indexAddr uL teL rfl rfl hsn (by omega) ?_)
    intro ad _ he
    refine rl_step (by decide) (op_fieldAddr fdL0 rfl ?_)
    refine rl_step (by decide) (op_load teI rfl he.line.1 ?_)
    intro u hu
    obtain ⟨rfl, _⟩ := eI_V.1 hu
    (repeat (first | refine rl_nil ?_ | refine rl_step (by decide) (op_move rfl ?_) | refine rl_step (by decide) (op_neq rfl rfl ?_) | refine rl_step (by decide) (op_add rfl rfl (by omega) ?_) | fail))
    have hf : p.notes[i].frm = c + i := by
      have := congrArg (fun l : List Int => l[i]?) h4
      simp [hlt'] at this
      exact this
    refine run_if rfl (fun h => absurd (by simpa using hf) h) (fun _ => ?_)
    (repeat (first | refine run_region_l ?_ | refine rl_nil ?_ | refine rl_step (by decide) (op_move rfl ?_) | refine rl_step (by decide) (op_assign rfl ?_) | refine run_inBlock ?_ | refine run_skip ?_ | refine rl_step (by decide) (op_add rfl rfl (by omega) ?_) | fail))
    exact (ih (i + 1) _ ⟨by omega, rfl⟩ (by omega)).sub (by repeat (first | exact trivial | refine ⟨rfl, ?_⟩))
  (repeat (first | refine run_seq ?_ | refine run_region_l ?_ | refine rl_nil ?_ | refine rl_step (by decide) (op_assign rfl ?_) | refine run_exit rfl ?_ | fail))
  refine run_ret1 Tryd.func49 rfl rfl ?_
  exact ⟨rfl, hr.bel⟩
end Go.Proofs.YtocoinkhbjlbhaaDoor
end

section
namespace Go.Proofs.YtocoinkhbjlbhaaDoor
open Go Go.RowKit
theorem set_val (M : Mut) (vb vn : Value) (body : List Line) (notes : List (List Line)) (h e : Int) (ps : List Pg) (w : World) (hm : MB M w) (hb : SlOf eLine M w vb body) (hn : SlOf (eSl eLine) M w vn notes) (hI : I64 h)
    (hsz : body.length ≤ 1000000 ∧ sumR notes body ≤ 1000000) (he : chkM body notes h = e) (hp : (if e = 0 then setAll h body notes else []) = ps) :
    CallsV Tryd.prog 23 [vb, vn, .int .i64 h] w (fun u w' => Below w.heap.size w w' ∧ ∃ vp, u = .tuple #[vp, .int .i64 e] ∧ SlOf ePg M w' vp ps) :=
  (set_c M vb vn body notes h w hm hb hn hI fun _ => hsz).mono fun u w' ⟨⟨vp, h1, h2⟩, h3⟩ => by
    rw [he] at h1 h2
    rw [hp] at h2
    exact ⟨h3, vp, h1, h2⟩
def oneM : List Line := [⟨10, 11, [], []⟩, ⟨11, 12, [], [0]⟩, ⟨12, 13, [], []⟩, ⟨13, 14, [], []⟩, ⟨14, 15, [], []⟩]
def twoM : List Line := [⟨10, 11, [], []⟩, ⟨11, 12, [], [0, 1]⟩, ⟨12, 13, [], []⟩, ⟨13, 14, [], []⟩, ⟨14, 15, [], []⟩]
def pgsOne : List Pg := [⟨0, 0, 0, 0, [⟨10, 11, [], []⟩, ⟨11, 12, [], [0]⟩], [⟨1, 2, [], []⟩]⟩, ⟨0, 0, 0, 0, [⟨12, 13, [], []⟩], [⟨2, 3, [], []⟩, ⟨3, 4, [], []⟩]⟩, ⟨0, 0, 0, 0, [⟨13, 14, [], []⟩, ⟨14, 15, [], []⟩], []⟩]
def pgsTwo : List Pg := [⟨0, 0, 0, 0, [⟨10, 11, [], []⟩, ⟨11, 12, [], [0, 1]⟩], [⟨1, 2, [], []⟩]⟩, ⟨0, 0, 0, 0, [], [⟨2, 3, [], []⟩, ⟨3, 4, [], []⟩, ⟨4, 5, [], []⟩]⟩, ⟨0, 0, 0, 0, [⟨12, 13, [], []⟩], [⟨5, 6, [], []⟩, ⟨6, 7, [], []⟩]⟩, ⟨0, 0, 0, 0, [⟨13, 14, [], []⟩, ⟨14, 15, [], []⟩], []⟩]
theorem chkOne : chkM oneM [linesM 1 3] 4 = 0 := rfl
theorem setOne : setAll 4 oneM [linesM 1 3] = pgsOne := rfl
theorem chkTwo : chkM twoM [linesM 1 1, linesM 2 5] 4 = 0 := rfl
theorem setTwo : setAll 4 twoM [linesM 1 1, linesM 2 5] = pgsTwo := rfl
theorem lives_c (M : Mut) (w : World) (hm : MB M w) : CallsV Tryd.prog 25 [] w (fun u w' => u = .bool true ∧ Below w.heap.size w w') := by
  have hr := Rn.refl hm
  refine callsV_of_run Tryd.func25 rfl Tryd.ntmps25 (Nat.le_of_ble_eq_true rfl) ?_
  (repeat (first | refine run_seq ?_ | refine run_region_l ?_ | refine rl_nil ?_ | refine rl_step (by decide) (op_assign rfl ?_) | fail))
  refine rl_step (by decide) (op_call ent47 rfl (line_c M _ 10 (.slice none 0 0) [] hr.mb (SlOf.nil _ _ _) (by omega)) ?_)
  rintro va0 wa0 ⟨hbel, ha0⟩
  have hs := UpM.of_below (M := M) hbel
  replace hr := hr.up hs
  clear hs hbel
  refine rl_step (by decide) (op_buildSlice (E := eI) (n := 1) (parts := [(0, .const (.int .i64 0))]) (vs := [.int .i64 0]) (l := [0]) uI teI hr rfl rfl ⟨eI_V.2 ⟨rfl, by unfold I64; omega⟩, trivial⟩ rfl ⟨Nat.le_of_ble_eq_true rfl, Nat.le_of_ble_eq_true rfl⟩ ?_)
  intro van wan han _ hbel
  have hs := UpM.of_below (M := M) hbel
  replace ha0 := ha0.mono hs.x
  replace hr := hr.up hs
  clear hs hbel
  refine rl_step (by decide) (op_call ent47 rfl (line_c M _ 11 van [0] hr.mb han (by omega)) ?_)
  rintro va1 wa1 ⟨hbel, ha1⟩
  have hs := UpM.of_below (M := M) hbel
  replace ha0 := ha0.mono hs.x
  replace han := han.mono hs.x
  replace hr := hr.up hs
  clear hs hbel
  refine rl_step (by decide) (op_call ent47 rfl (line_c M _ 12 (.slice none 0 0) [] hr.mb (SlOf.nil _ _ _) (by omega)) ?_)
  rintro va2 wa2 ⟨hbel, ha2⟩
  have hs := UpM.of_below (M := M) hbel
  replace ha0 := ha0.mono hs.x
  replace han := han.mono hs.x
  replace ha1 := ha1.mono hs.x
  replace hr := hr.up hs
  clear hs hbel
  refine rl_step (by decide) (op_call ent47 rfl (line_c M _ 13 (.slice none 0 0) [] hr.mb (SlOf.nil _ _ _) (by omega)) ?_)
  rintro va3 wa3 ⟨hbel, ha3⟩
  have hs := UpM.of_below (M := M) hbel
  replace ha0 := ha0.mono hs.x
  replace han := han.mono hs.x
  replace ha1 := ha1.mono hs.x
  replace ha2 := ha2.mono hs.x
  replace hr := hr.up hs
  clear hs hbel
  refine rl_step (by decide) (op_call ent47 rfl (line_c M _ 14 (.slice none 0 0) [] hr.mb (SlOf.nil _ _ _) (by omega)) ?_)
  rintro va4 wa4 ⟨hbel, ha4⟩
  have hs := UpM.of_below (M := M) hbel
  replace ha0 := ha0.mono hs.x
  replace han := han.mono hs.x
  replace ha1 := ha1.mono hs.x
  replace ha2 := ha2.mono hs.x
  replace ha3 := ha3.mono hs.x
  replace hr := hr.up hs
  clear hs hbel
  refine rl_step (by decide) (op_buildSlice (E := eLine) (n := 5) (parts := [(0, .tmp 15), (1, .tmp 17), (2, .tmp 18), (3, .tmp 19), (4, .tmp 20)]) (vs := [va0, va1, va2, va3, va4]) (l := oneM) uL teL hr rfl rfl ⟨ha0, ha1, ha2, ha3, ha4, trivial⟩ rfl ⟨Nat.le_of_ble_eq_true rfl, Nat.le_of_ble_eq_true rfl⟩ ?_)
  intro va wa ha _ hbel
  have hs := UpM.of_below (M := M) hbel
  replace ha0 := ha0.mono hs.x
  replace han := han.mono hs.x
  replace ha1 := ha1.mono hs.x
  replace ha2 := ha2.mono hs.x
  replace ha3 := ha3.mono hs.x
  replace ha4 := ha4.mono hs.x
  replace hr := hr.up hs
  clear hs hbel
  clear ha0 ha1 ha2 ha3 ha4 han
  (repeat (first | refine run_seq ?_ | refine run_region_l ?_ | refine rl_nil ?_ | refine rl_step (by decide) (op_assign rfl ?_) | fail))
  refine rl_step (by decide) (op_call ent47 rfl (line_c M _ 10 (.slice none 0 0) [] hr.mb (SlOf.nil _ _ _) (by omega)) ?_)
  rintro vb0 wb0 ⟨hbel, hb0⟩
  have hs := UpM.of_below (M := M) hbel
  replace ha := ha.mono hs.x
  replace hr := hr.up hs
  clear hs hbel
  refine rl_step (by decide) (op_buildSlice (E := eI) (n := 2) (parts := [(0, .const (.int .i64 0)), (1, .const (.int .i64 1))]) (vs := [.int .i64 0, .int .i64 1]) (l := [0, 1]) uI teI hr rfl rfl ⟨eI_V.2 ⟨rfl, by unfold I64; omega⟩, eI_V.2 ⟨rfl, by unfold I64; omega⟩, trivial⟩ rfl ⟨Nat.le_of_ble_eq_true rfl, Nat.le_of_ble_eq_true rfl⟩ ?_)
  intro vbn wbn hbn _ hbel
  have hs := UpM.of_below (M := M) hbel
  replace ha := ha.mono hs.x
  replace hb0 := hb0.mono hs.x
  replace hr := hr.up hs
  clear hs hbel
  refine rl_step (by decide) (op_call ent47 rfl (line_c M _ 11 vbn [0, 1] hr.mb hbn (by omega)) ?_)
  rintro vb1 wb1 ⟨hbel, hb1⟩
  have hs := UpM.of_below (M := M) hbel
  replace ha := ha.mono hs.x
  replace hb0 := hb0.mono hs.x
  replace hbn := hbn.mono hs.x
  replace hr := hr.up hs
  clear hs hbel
  refine rl_step (by decide) (op_call ent47 rfl (line_c M _ 12 (.slice none 0 0) [] hr.mb (SlOf.nil _ _ _) (by omega)) ?_)
  rintro vb2 wb2 ⟨hbel, hb2⟩
  have hs := UpM.of_below (M := M) hbel
  replace ha := ha.mono hs.x
  replace hb0 := hb0.mono hs.x
  replace hbn := hbn.mono hs.x
  replace hb1 := hb1.mono hs.x
  replace hr := hr.up hs
  clear hs hbel
  refine rl_step (by decide) (op_call ent47 rfl (line_c M _ 13 (.slice none 0 0) [] hr.mb (SlOf.nil _ _ _) (by omega)) ?_)
  rintro vb3 wb3 ⟨hbel, hb3⟩
  have hs := UpM.of_below (M := M) hbel
  replace ha := ha.mono hs.x
  replace hb0 := hb0.mono hs.x
  replace hbn := hbn.mono hs.x
  replace hb1 := hb1.mono hs.x
  replace hb2 := hb2.mono hs.x
  replace hr := hr.up hs
  clear hs hbel
  refine rl_step (by decide) (op_call ent47 rfl (line_c M _ 14 (.slice none 0 0) [] hr.mb (SlOf.nil _ _ _) (by omega)) ?_)
  rintro vb4 wb4 ⟨hbel, hb4⟩
  have hs := UpM.of_below (M := M) hbel
  replace ha := ha.mono hs.x
  replace hb0 := hb0.mono hs.x
  replace hbn := hbn.mono hs.x
  replace hb1 := hb1.mono hs.x
  replace hb2 := hb2.mono hs.x
  replace hb3 := hb3.mono hs.x
  replace hr := hr.up hs
  clear hs hbel
  refine rl_step (by decide) (op_buildSlice (E := eLine) (n := 5) (parts := [(0, .tmp 22), (1, .tmp 24), (2, .tmp 25), (3, .tmp 26), (4, .tmp 27)]) (vs := [vb0, vb1, vb2, vb3, vb4]) (l := twoM) uL teL hr rfl rfl ⟨hb0, hb1, hb2, hb3, hb4, trivial⟩ rfl ⟨Nat.le_of_ble_eq_true rfl, Nat.le_of_ble_eq_true rfl⟩ ?_)
  intro vb wb hb _ hbel
  have hs := UpM.of_below (M := M) hbel
  replace ha := ha.mono hs.x
  replace hb0 := hb0.mono hs.x
  replace hbn := hbn.mono hs.x
  replace hb1 := hb1.mono hs.x
  replace hb2 := hb2.mono hs.x
  replace hb3 := hb3.mono hs.x
  replace hb4 := hb4.mono hs.x
  replace hr := hr.up hs
  clear hs hbel
  clear hb0 hb1 hb2 hb3 hb4 hbn
  (repeat (first | refine run_seq ?_ | refine run_region_l ?_ | refine rl_nil ?_ | refine rl_step (by decide) (op_move rfl ?_) | refine rl_step (by decide) (op_assign rfl ?_) | fail))
  refine rl_step (by decide) (op_call ent48 rfl (lines_c M _ 1 3 hr.mb (by omega) (by omega)) ?_)
  rintro vl1 wl1 ⟨hbel, hl1⟩
  have hs := UpM.of_below (M := M) hbel
  replace ha := ha.mono hs.x
  replace hb := hb.mono hs.x
  replace hr := hr.up hs
  clear hs hbel
  refine rl_step (by decide) (op_buildSlice (E := (eSl eLine)) (n := 1) (parts := [(0, .tmp 31)]) (vs := [vl1]) (l := [linesM 1 3]) uLL teSL hr rfl rfl ⟨eSl_V.2 hl1, trivial⟩ rfl ⟨Nat.le_of_ble_eq_true rfl, Nat.le_of_ble_eq_true rfl⟩ ?_)
  intro vk1 wk1 hk1 _ hbel
  have hs := UpM.of_below (M := M) hbel
  replace ha := ha.mono hs.x
  replace hb := hb.mono hs.x
  replace hl1 := hl1.mono hs.x
  replace hr := hr.up hs
  clear hs hbel
  (repeat (first | refine run_seq ?_ | fail))
  refine rl_step (by decide) (op_call ent23 rfl (set_val M va vk1 oneM [linesM 1 3] 4 0 pgsOne _ hr.mb ha hk1 (by unfold I64; omega) ⟨Nat.le_of_ble_eq_true rfl, Nat.le_of_ble_eq_true rfl⟩ chkOne setOne) ?_)
  rintro _ wp1 ⟨hbel, vp1, rfl, hp1⟩
  have hs := UpM.of_below (M := M) hbel
  replace ha := ha.mono hs.x
  replace hb := hb.mono hs.x
  replace hl1 := hl1.mono hs.x
  replace hk1 := hk1.mono hs.x
  replace hr := hr.up hs
  clear hs hbel
  (repeat (first | refine run_seq ?_ | refine run_region_l ?_ | refine rl_nil ?_ | refine rl_step (by decide) (op_move rfl ?_) | refine rl_step (by decide) (op_assign rfl ?_) | refine rl_step (by decide) (op_extract rfl rfl ?_) | fail))
  refine rl_step (by decide) (op_call ent48 rfl (lines_c M _ 1 1 hr.mb (by omega) (by omega)) ?_)
  rintro vl2 wl2 ⟨hbel, hl2⟩
  have hs := UpM.of_below (M := M) hbel
  replace ha := ha.mono hs.x
  replace hb := hb.mono hs.x
  replace hl1 := hl1.mono hs.x
  replace hk1 := hk1.mono hs.x
  replace hp1 := hp1.mono hs.x
  replace hr := hr.up hs
  clear hs hbel
  refine rl_step (by decide) (op_call ent48 rfl (lines_c M _ 2 5 hr.mb (by omega) (by omega)) ?_)
  rintro vl3 wl3 ⟨hbel, hl3⟩
  have hs := UpM.of_below (M := M) hbel
  replace ha := ha.mono hs.x
  replace hb := hb.mono hs.x
  replace hl1 := hl1.mono hs.x
  replace hk1 := hk1.mono hs.x
  replace hp1 := hp1.mono hs.x
  replace hl2 := hl2.mono hs.x
  replace hr := hr.up hs
  clear hs hbel
  refine rl_step (by decide) (op_buildSlice (E := (eSl eLine)) (n := 2) (parts := [(0, .tmp 38), (1, .tmp 39)]) (vs := [vl2, vl3]) (l := [linesM 1 1, linesM 2 5]) uLL teSL hr rfl rfl ⟨eSl_V.2 hl2, eSl_V.2 hl3, trivial⟩ rfl ⟨Nat.le_of_ble_eq_true rfl, Nat.le_of_ble_eq_true rfl⟩ ?_)
  intro vk2 wk2 hk2 _ hbel
  have hs := UpM.of_below (M := M) hbel
  replace ha := ha.mono hs.x
  replace hb := hb.mono hs.x
  replace hl1 := hl1.mono hs.x
  replace hk1 := hk1.mono hs.x
  replace hp1 := hp1.mono hs.x
  replace hl2 := hl2.mono hs.x
  replace hl3 := hl3.mono hs.x
  replace hr := hr.up hs
  clear hs hbel
  (repeat (first | refine run_seq ?_ | fail))
  refine rl_step (by decide) (op_call ent23 rfl (set_val M vb vk2 twoM [linesM 1 1, linesM 2 5] 4 0 pgsTwo _ hr.mb hb hk2 (by unfold I64; omega) ⟨Nat.le_of_ble_eq_true rfl, Nat.le_of_ble_eq_true rfl⟩ chkTwo setTwo) ?_)
  rintro _ wp2 ⟨hbel, vp2, rfl, hp2⟩
  have hs := UpM.of_below (M := M) hbel
  replace ha := ha.mono hs.x
  replace hb := hb.mono hs.x
  replace hl1 := hl1.mono hs.x
  replace hk1 := hk1.mono hs.x
  replace hp1 := hp1.mono hs.x
  replace hl2 := hl2.mono hs.x
  replace hl3 := hl3.mono hs.x
  replace hk2 := hk2.mono hs.x
  replace hr := hr.up hs
  clear hs hbel
  (repeat (first | refine run_seq ?_ | refine run_region_l ?_ | refine rl_nil ?_ | refine rl_step (by decide) (op_move rfl ?_) | refine rl_step (by decide) (op_assign rfl ?_) | refine rl_step (by decide) (op_extract rfl rfl ?_) | fail))
  clear hl1 hl2 hl3 hk1 hk2 hb
  (repeat (first | refine run_seq ?_ | fail))
  refine rl_step (by decide) (op_call ent23 rfl (set_val M va (.slice none 0 0) oneM [] 4 12 [] _ hr.mb ha (SlOf.nil _ _ _) (by unfold I64; omega) ⟨Nat.le_of_ble_eq_true rfl, Nat.le_of_ble_eq_true rfl⟩ rfl rfl) ?_)
  rintro _ wp3 ⟨hbel, vp3, rfl, hp3⟩
  have hs := UpM.of_below (M := M) hbel
  replace ha := ha.mono hs.x
  replace hp1 := hp1.mono hs.x
  replace hp2 := hp2.mono hs.x
  replace hr := hr.up hs
  clear hs hbel
  (repeat (first | refine run_seq ?_ | refine run_region_l ?_ | refine rl_nil ?_ | refine rl_step (by decide) (op_move rfl ?_) | refine rl_step (by decide) (op_assign rfl ?_) | refine rl_step (by decide) (op_extract rfl rfl ?_) | fail))
  refine rl_step (by decide) (op_call ent48 rfl (lines_c M _ 1 2 hr.mb (by omega) (by omega)) ?_)
  rintro vl4 wl4 ⟨hbel, hl4⟩
  have hs := UpM.of_below (M := M) hbel
  replace ha := ha.mono hs.x
  replace hp1 := hp1.mono hs.x
  replace hp2 := hp2.mono hs.x
  replace hp3 := hp3.mono hs.x
  replace hr := hr.up hs
  clear hs hbel
  refine rl_step (by decide) (op_call ent48 rfl (lines_c M _ 1 1 hr.mb (by omega) (by omega)) ?_)
  rintro vl5 wl5 ⟨hbel, hl5⟩
  have hs := UpM.of_below (M := M) hbel
  replace ha := ha.mono hs.x
  replace hp1 := hp1.mono hs.x
  replace hp2 := hp2.mono hs.x
  replace hp3 := hp3.mono hs.x
  replace hl4 := hl4.mono hs.x
  replace hr := hr.up hs
  clear hs hbel
  refine rl_step (by decide) (op_buildSlice (E := (eSl eLine)) (n := 1) (parts := [(0, .tmp 51)]) (vs := [vl5]) (l := [linesM 1 1]) uLL teSL hr rfl rfl ⟨eSl_V.2 hl5, trivial⟩ rfl ⟨Nat.le_of_ble_eq_true rfl, Nat.le_of_ble_eq_true rfl⟩ ?_)
  intro vk4 wk4 hk4 _ hbel
  have hs := UpM.of_below (M := M) hbel
  replace ha := ha.mono hs.x
  replace hp1 := hp1.mono hs.x
  replace hp2 := hp2.mono hs.x
  replace hp3 := hp3.mono hs.x
  replace hl4 := hl4.mono hs.x
  replace hl5 := hl5.mono hs.x
  replace hr := hr.up hs
  clear hs hbel
  (repeat (first | refine run_seq ?_ | fail))
  refine rl_step (by decide) (op_call ent23 rfl (set_val M vl4 vk4 (linesM 1 2) [linesM 1 1] 4 3 [] _ hr.mb hl4 hk4 (by unfold I64; omega) ⟨Nat.le_of_ble_eq_true rfl, Nat.le_of_ble_eq_true rfl⟩ rfl rfl) ?_)
  rintro _ wp4 ⟨hbel, vp4, rfl, hp4⟩
  have hs := UpM.of_below (M := M) hbel
  replace ha := ha.mono hs.x
  replace hp1 := hp1.mono hs.x
  replace hp2 := hp2.mono hs.x
  replace hp3 := hp3.mono hs.x
  replace hl4 := hl4.mono hs.x
  replace hl5 := hl5.mono hs.x
  replace hk4 := hk4.mono hs.x
  replace hr := hr.up hs
  clear hs hbel
  (repeat (first | refine run_seq ?_ | refine run_region_l ?_ | refine rl_nil ?_ | refine rl_step (by decide) (op_move rfl ?_) | refine rl_step (by decide) (op_assign rfl ?_) | refine rl_step (by decide) (op_extract rfl rfl ?_) | fail))
  refine rl_step (by decide) (op_buildSlice (E := (eSl eLine)) (n := 1) (parts := [(0, .const (.slice none 0 0))]) (vs := [.slice none 0 0]) (l := [[]]) uLL teSL hr rfl rfl ⟨eSl_V.2 (SlOf.nil _ _ _), trivial⟩ rfl ⟨Nat.le_of_ble_eq_true rfl, Nat.le_of_ble_eq_true rfl⟩ ?_)
  intro vk5 wk5 hk5 _ hbel
  have hs := UpM.of_below (M := M) hbel
  replace ha := ha.mono hs.x
  replace hp1 := hp1.mono hs.x
  replace hp2 := hp2.mono hs.x
  replace hp3 := hp3.mono hs.x
  replace hl4 := hl4.mono hs.x
  replace hl5 := hl5.mono hs.x
  replace hk4 := hk4.mono hs.x
  replace hp4 := hp4.mono hs.x
  replace hr := hr.up hs
  clear hs hbel
  (repeat (first | refine run_seq ?_ | fail))
  refine rl_step (by decide) (op_call ent23 rfl (set_val M (.slice none 0 0) vk5 [] [[]] 4 1 [] _ hr.mb (SlOf.nil _ _ _) hk5 (by unfold I64; omega) ⟨Nat.le_of_ble_eq_true rfl, Nat.le_of_ble_eq_true rfl⟩ rfl rfl) ?_)
  rintro _ wp5 ⟨hbel, vp5, rfl, hp5⟩
  have hs := UpM.of_below (M := M) hbel
  replace ha := ha.mono hs.x
  replace hp1 := hp1.mono hs.x
  replace hp2 := hp2.mono hs.x
  replace hp3 := hp3.mono hs.x
  replace hl4 := hl4.mono hs.x
  replace hl5 := hl5.mono hs.x
  replace hk4 := hk4.mono hs.x
  replace hp4 := hp4.mono hs.x
  replace hk5 := hk5.mono hs.x
  replace hr := hr.up hs
  clear hs hbel
  (repeat (first | refine run_seq ?_ | refine run_region_l ?_ | refine rl_nil ?_ | refine rl_step (by decide) (op_move rfl ?_) | refine rl_step (by decide) (op_assign rfl ?_) | refine rl_step (by decide) (op_extract rfl rfl ?_) | fail))
  (repeat (first | refine run_seq ?_ | fail))
  refine rl_step (by decide) (op_call ent23 rfl (set_val M va (.slice none 0 0) oneM [] 3 5 [] _ hr.mb ha (SlOf.nil _ _ _) (by unfold I64; omega) ⟨Nat.le_of_ble_eq_true rfl, Nat.le_of_ble_eq_true rfl⟩ rfl rfl) ?_)
  rintro _ wp6 ⟨hbel, vp6, rfl, hp6⟩
  have hs := UpM.of_below (M := M) hbel
  replace ha := ha.mono hs.x
  replace hp1 := hp1.mono hs.x
  replace hp2 := hp2.mono hs.x
  replace hp3 := hp3.mono hs.x
  replace hl4 := hl4.mono hs.x
  replace hl5 := hl5.mono hs.x
  replace hk4 := hk4.mono hs.x
  replace hp4 := hp4.mono hs.x
  replace hk5 := hk5.mono hs.x
  replace hp5 := hp5.mono hs.x
  replace hr := hr.up hs
  clear hs hbel
  (repeat (first | refine run_seq ?_ | refine run_region_l ?_ | refine rl_nil ?_ | refine rl_step (by decide) (op_move rfl ?_) | refine rl_step (by decide) (op_assign rfl ?_) | refine rl_yes rfl rfl ?_ | refine rl_step (by decide) (op_pick_f rfl rfl ?_) | refine rl_step (by decide) (op_neq rfl rfl ?_) | refine rl_step (by decide) (op_extract rfl rfl ?_) | fail))
  clear hl4 hl5 hk4 hk5 hp3 hp4 hp5 hp6 ha
  refine rl_step (by decide) (op_len uP rfl hp1 ?_)
  (repeat (first | refine rl_step (by decide) (op_move rfl ?_) | refine rl_yes rfl rfl ?_ | refine rl_step (by decide) (op_pick_f rfl rfl ?_) | refine rl_step (by decide) (op_neq rfl rfl ?_) | fail))
  refine rl_step (by decide) (op_len uP rfl hp2 ?_)
  (repeat (first | refine run_seq ?_ | refine run_region_l ?_ | refine rl_nil ?_ | refine rl_step (by decide) (op_move rfl ?_) | refine run_skip ?_ | refine run_false rfl ?_ | refine rl_yes rfl rfl ?_ | refine rl_step (by decide) (op_pick_f rfl rfl ?_) | refine rl_step (by decide) (op_neq rfl rfl ?_) | fail))
  refine rl_step (by decide) (op_indexAddr uP teP rfl rfl hp1 ⟨by decide, by decide⟩ ?_)
  intro ad _ he
  (repeat (first | refine run_seq ?_ | fail))
  refine rl_step (by decide) (op_load teP rfl he ?_)
  clear he
  intro u1 hu1
  (repeat (first | refine run_seq ?_ | fail))
  refine rl_step (by decide) (op_call ent49 rfl (shape_c M _ _ _ 10 11 1 1 hr.mb hu1 (by omega) (by omega) (by omega) (by omega) rfl rfl rfl rfl) ?_)
  rintro _ w_ ⟨rfl, hbel⟩
  clear hu1
  have hs := UpM.of_below (M := M) hbel
  replace hp1 := hp1.mono hs.x
  replace hp2 := hp2.mono hs.x
  replace hr := hr.up hs
  clear hs hbel
  (repeat (first | refine rl_step (by decide) (op_move rfl ?_) | refine rl_yes rfl rfl ?_ | refine rl_step (by decide) (op_not rfl ?_) | fail))
  refine rl_step (by decide) (op_indexAddr uP teP rfl rfl hp1 ⟨by decide, by decide⟩ ?_)
  intro ad _ he
  (repeat (first | refine rl_yes rfl rfl ?_ | fail))
  refine rl_step (by decide) (op_load teP rfl he ?_)
  clear he
  intro u2 hu2
  (repeat (first | refine rl_yes rfl rfl ?_ | fail))
  refine rl_step (by decide) (op_call ent49 rfl (shape_c M _ _ _ 12 12 2 3 hr.mb hu2 (by omega) (by omega) (by omega) (by omega) rfl rfl rfl rfl) ?_)
  rintro _ w_ ⟨rfl, hbel⟩
  clear hu2
  have hs := UpM.of_below (M := M) hbel
  replace hp1 := hp1.mono hs.x
  replace hp2 := hp2.mono hs.x
  replace hr := hr.up hs
  clear hs hbel
  (repeat (first | refine rl_step (by decide) (op_move rfl ?_) | refine rl_yes rfl rfl ?_ | refine rl_step (by decide) (op_pick_f rfl rfl ?_) | refine rl_step (by decide) (op_not rfl ?_) | fail))
  refine rl_step (by decide) (op_indexAddr uP teP rfl rfl hp1 ⟨by decide, by decide⟩ ?_)
  intro ad _ he
  (repeat (first | refine rl_yes rfl rfl ?_ | fail))
  refine rl_step (by decide) (op_load teP rfl he ?_)
  clear he
  intro u3 hu3
  (repeat (first | refine rl_yes rfl rfl ?_ | fail))
  refine rl_step (by decide) (op_call ent49 rfl (shape_c M _ _ _ 13 14 1 0 hr.mb hu3 (by omega) (by omega) (by omega) (by omega) rfl rfl rfl rfl) ?_)
  rintro _ w_ ⟨rfl, hbel⟩
  clear hu3
  have hs := UpM.of_below (M := M) hbel
  replace hp1 := hp1.mono hs.x
  replace hp2 := hp2.mono hs.x
  replace hr := hr.up hs
  clear hs hbel
  (repeat (first | refine rl_step (by decide) (op_move rfl ?_) | refine rl_yes rfl rfl ?_ | refine rl_step (by decide) (op_pick_f rfl rfl ?_) | refine rl_step (by decide) (op_not rfl ?_) | fail))
  refine rl_step (by decide) (op_indexAddr uP teP rfl rfl hp1 ⟨by decide, by decide⟩ ?_)
  intro ad _ he
  (repeat (first | refine rl_yes rfl rfl ?_ | fail))
  refine rl_step (by decide) (op_load teP rfl he ?_)
  clear he
  intro u4 hu4
  (repeat (first | refine rl_yes rfl rfl ?_ | fail))
  refine rl_step (by decide) (op_call ent50 rfl (room_p M _ _ _ 4 hr.mb hu4 (by omega)) ?_)
  rintro _ w_ ⟨rfl, hbel⟩
  clear hu4
  have hs := UpM.of_below (M := M) hbel
  replace hp1 := hp1.mono hs.x
  replace hp2 := hp2.mono hs.x
  replace hr := hr.up hs
  clear hs hbel
  (repeat (first | refine run_seq ?_ | refine run_region_l ?_ | refine rl_nil ?_ | refine rl_step (by decide) (op_move rfl ?_) | refine run_skip ?_ | refine run_false rfl ?_ | refine rl_yes rfl rfl ?_ | refine rl_step (by decide) (op_pick_f rfl rfl ?_) | refine rl_step (by decide) (op_neq rfl rfl ?_) | fail))
  (repeat (first | refine run_seq ?_ | fail))
  refine rl_step (by decide) (op_indexAddr uP teP rfl rfl hp2 ⟨by decide, by decide⟩ ?_)
  intro ad _ he
  (repeat (first | refine run_seq ?_ | fail))
  refine rl_step (by decide) (op_load teP rfl he ?_)
  clear he
  intro u5 hu5
  (repeat (first | refine run_seq ?_ | fail))
  refine rl_step (by decide) (op_call ent49 rfl (shape_c M _ _ _ 10 11 1 1 hr.mb hu5 (by omega) (by omega) (by omega) (by omega) rfl rfl rfl rfl) ?_)
  rintro _ w_ ⟨rfl, hbel⟩
  clear hu5
  have hs := UpM.of_below (M := M) hbel
  replace hp1 := hp1.mono hs.x
  replace hp2 := hp2.mono hs.x
  replace hr := hr.up hs
  clear hs hbel
  (repeat (first | refine rl_step (by decide) (op_move rfl ?_) | refine rl_yes rfl rfl ?_ | fail))
  refine rl_step (by decide) (op_indexAddr uP teP rfl rfl hp2 ⟨by decide, by decide⟩ ?_)
  intro ad _ he
  (repeat (first | refine rl_yes rfl rfl ?_ | fail))
  refine rl_step (by decide) (op_load teP rfl he ?_)
  clear he
  intro u6 hu6
  (repeat (first | refine rl_yes rfl rfl ?_ | fail))
  refine rl_step (by decide) (op_call ent49 rfl (shape_c M _ _ _ 1 0 2 4 hr.mb hu6 (by omega) (by omega) (by omega) (by omega) rfl rfl rfl rfl) ?_)
  rintro _ w_ ⟨rfl, hbel⟩
  clear hu6
  have hs := UpM.of_below (M := M) hbel
  replace hp1 := hp1.mono hs.x
  replace hp2 := hp2.mono hs.x
  replace hr := hr.up hs
  clear hs hbel
  (repeat (first | refine rl_step (by decide) (op_move rfl ?_) | refine rl_yes rfl rfl ?_ | refine rl_step (by decide) (op_pick_t rfl rfl ?_) | fail))
  refine rl_step (by decide) (op_indexAddr uP teP rfl rfl hp2 ⟨by decide, by decide⟩ ?_)
  intro ad _ he
  (repeat (first | refine rl_yes rfl rfl ?_ | fail))
  refine rl_step (by decide) (op_load teP rfl he ?_)
  clear he
  intro u7 hu7
  (repeat (first | refine rl_yes rfl rfl ?_ | fail))
  refine rl_step (by decide) (op_call ent49 rfl (shape_c M _ _ _ 12 12 5 6 hr.mb hu7 (by omega) (by omega) (by omega) (by omega) rfl rfl rfl rfl) ?_)
  rintro _ w_ ⟨rfl, hbel⟩
  clear hu7
  have hs := UpM.of_below (M := M) hbel
  replace hp1 := hp1.mono hs.x
  replace hp2 := hp2.mono hs.x
  replace hr := hr.up hs
  clear hs hbel
  (repeat (first | refine rl_step (by decide) (op_move rfl ?_) | refine rl_yes rfl rfl ?_ | refine rl_step (by decide) (op_pick_t rfl rfl ?_) | fail))
  refine rl_step (by decide) (op_indexAddr uP teP rfl rfl hp2 ⟨by decide, by decide⟩ ?_)
  intro ad _ he
  (repeat (first | refine rl_yes rfl rfl ?_ | fail))
  refine rl_step (by decide) (op_load teP rfl he ?_)
  clear he
  intro u8 hu8
  (repeat (first | refine rl_yes rfl rfl ?_ | fail))
  refine rl_step (by decide) (op_call ent49 rfl (shape_c M _ _ _ 13 14 1 0 hr.mb hu8 (by omega) (by omega) (by omega) (by omega) rfl rfl rfl rfl) ?_)
  rintro _ w_ ⟨rfl, hbel⟩
  clear hu8
  have hs := UpM.of_below (M := M) hbel
  replace hp1 := hp1.mono hs.x
  replace hp2 := hp2.mono hs.x
  replace hr := hr.up hs
  clear hs hbel
  (repeat (first | refine rl_nil ?_ | refine rl_step (by decide) (op_assign rfl ?_) | refine rl_step (by decide) (op_pick_t rfl rfl ?_) | fail))
  refine run_ret1 Tryd.func25 rfl rfl ?_
  exact ⟨rfl, hr.bel⟩
end Go.Proofs.YtocoinkhbjlbhaaDoor
end

section
namespace Go.Proofs.YtocoinkhbjlbhaaDoor
open Go Go.RowKit
end Go.Proofs.YtocoinkhbjlbhaaDoor
end

section
namespace Go.Proofs.YtocoinkhbjlbhaaDoor
open Go Go.RowKit
structure SlBg (M : Mut) (w : World) (v : Value) (l : List Int) : Prop where
  ex : ∃ a cap, v = .slice a l.length cap ∧ l.length ≤ cap ∧ cap ≤ maxLen ∧ (a = none → cap = 0) ∧ ∀ ad, a = some ad → ∀ (i : Nat) (hi : i < l.length), Elem eI M w (ad.add (i * eI.sz)) l[i]
section
variable {P : Program} {N : Nat} {fr : Fr} {w : World} {Ψ : Value → World → Prop} {d : Option Tmp} {ty : TypeId} {pos : String} {aft : Array Edge} {g : Option (Nat × Bool)}
end
structure OKB (body : List Line) (notes : List (List Line)) : Prop where
  lb : body.length ≤ 60
  ln : notes.length ≤ 2 * body.length
  nn : ∀ x ∈ notes, x ≠ [] ∧ x.length ≤ 9
  rf : refs body = (List.range notes.length).map fun (i : Nat) => (i : Int)
structure LJ (M0 : Mut) (w0 : World) (v : Value) (l : List Int) (M : Mut) (w : World) (body : List Line) (notes : List (List Line)) (vb vn : Value) : Prop where
  rn : Rn M0 w0 M w
  sl : SlBg M w v l
  sb : SlOf eLine M w vb body
  gb : Grow w0.heap.size M w vb body.length 4 1 42
  sn : SlOf (eSl eLine) M w vn notes
  gn : Grow w0.heap.size M w vn notes.length 1 2 33
structure XJ (B : Nat) (M : Mut) (w : World) (bx : Nat) (n : Int) (vx : Value) (ns : List Int) : Prop where
  box : Box M w bx 3 [.int .i64 n, .int .i64 (n + 1), .slice none 0 0, vx] 42
  sx : SlOf eI M w vx ns
  gx : Grow B M w vx ns.length 1 4 3
structure OS where
  i : Nat
  body : List Line
  notes : List (List Line)
  vb : Value
  vn : Value
  M : Mut
structure KS where
  k : Nat
  ns : List Int
  notes : List (List Line)
  vx : Value
  vn : Value
  M : Mut
structure NS where
  note : List Line
  vo : Value
  M : Mut
end Go.Proofs.YtocoinkhbjlbhaaDoor
end

section
namespace Go.Proofs.YtocoinkhbjlbhaaDoor
open Go Go.RowKit
end Go.Proofs.YtocoinkhbjlbhaaDoor
end

section
namespace Go.Proofs.YtocoinkhbjlbhaaDoor
def notesOf (notes : List (List Line)) (body : List Line) : List Line := (refs body).flatMap (noteAt notes)
theorem notesOf_len (notes : List (List Line)) (body : List Line) : (notesOf notes body).length = sumR notes body := rfl
theorem notesOf_append (notes : List (List Line)) (a b : List Line) : notesOf notes (a ++ b) = notesOf notes a ++ notesOf notes b := by
  unfold notesOf refs
  rw [List.flatMap_append, List.flatMap_append]
theorem notesOf_cons (notes : List (List Line)) (x : Line) (b : List Line) : notesOf notes (x :: b) = x.notes.flatMap (noteAt notes) ++ notesOf notes b := by
  unfold notesOf refs
  rw [List.flatMap_cons, List.flatMap_append]
theorem fill_inv (h : Int) (notes : List (List Line)) : ∀ (body : List Line) (n : Int) (q : List Line) (s : Int), 0 ≤ n → 0 ≤ s → s ≤ q.length → n + s + min s 1 ≤ h → (s = 0 → q.length = 0) →
    ∃ (k : Nat) (n' s' : Int) (q' : List Line), fillM h notes body n q s = (n', q', s') ∧ n' = n + k ∧ k ≤ body.length ∧ q' = q ++ notesOf notes (body.take k) ∧ s ≤ s' ∧ s' ≤ q'.length ∧ n' + s' + min s' 1 ≤ h ∧ (s' = 0 → q'.length = 0) ∧
      (k < body.length → ∃ x, body[k]? = some x ∧ fitsB h x n' s' q'.length = false)
  | [], n, q, s, h0, h1, h2, h3, h4 => ⟨0, n, s, q, rfl, by simp, by simp, by simp [notesOf, refs], by omega, h2, h3, h4, by simp⟩
  | x :: r, n, q, s, h0, h1, h2, h3, h4 => by
    rw [fillM]
    split
    · rename_i hb
      obtain ⟨f1, f2⟩ := fits_bd hb h1 (by omega)
      have hlen : (q ++ x.notes.flatMap (noteAt notes)).length = q.length + (x.notes.flatMap (noteAt notes)).length := List.length_append
      have hz : x.notes = [] → (x.notes.flatMap (noteAt notes)).length = 0 := fun hx => by rw [hx]; rfl
      have hg := growM_bd h (n + 1) s (q ++ x.notes.flatMap (noteAt notes)).length h1 (by omega) (by omega) (fun a b => by
        rcases f2 with hx | hx
        · have := hz hx
          have := h4 a
          omega
        · omega)
      obtain ⟨k, n', s', q', e, e1, e2, e3, e4, e5, e6, e7, e8⟩ := fill_inv h notes r (n + 1) _ _ (by omega) (by omega) hg.2.1 hg.2.2.1 (fun a => by have := hg.2.2.2 a; omega)
      refine ⟨k + 1, n', s', q', e, by omega, by simp only [List.length_cons]; omega, ?_, by omega, e5, e6, e7, fun hk => ?_⟩
      · rw [e3, List.take_succ_cons, notesOf_cons, List.append_assoc]
      · rw [List.getElem?_cons_succ]
        exact e8 (by simp only [List.length_cons] at hk; omega)
    · rename_i hb
      exact ⟨0, n, s, q, rfl, by simp, by simp, by simp [notesOf, refs], by omega, h2, h3, h4, fun _ => ⟨x, rfl, by simpa using hb⟩⟩
theorem set_step (h : Int) (hh : 4 ≤ h) (notes : List (List Line)) (f : Nat) (body q : List Line) (hne : 0 < body.length + q.length) :
    ∃ (k m : Nat) (q' : List Line), q' = q ++ notesOf notes (body.take k) ∧ k ≤ body.length ∧ m ≤ q'.length ∧ (k : Int) + m + min (m : Int) 1 ≤ h ∧ 0 < k + m ∧ (m = 0 → q'.length = 0) ∧
      setM h notes (f + 1) body q = ⟨0, 0, 0, 0, body.take k, q'.take m⟩ :: setM h notes f (body.drop k) (q'.drop m) ∧
      min q.length (h.toNat - 1) ≤ m ∧ (k < body.length → ∃ x, body[k]? = some x ∧ fitsB h x k m q'.length = false) := by
  obtain ⟨k, n', s', q', e, e1, e2, e3, e4, e5, e6, e7, e8⟩ := fill_inv h notes body 0 q (min q.length (h - 1)) (by omega) (by omega) (by omega) (by omega) (by omega)
  have hpos : 0 < k + s'.toNat := by
    rcases Nat.eq_zero_or_pos (k + s'.toNat) with hz | hz
    · have hk : k = 0 := by omega
      have hs : s' = 0 := by omega
      have hq := e7 hs
      subst hk
      have hq0 : q.length = 0 := by rw [e3] at hq; simp [notesOf, refs] at hq; simp [hq]
      obtain ⟨x, hx, hf⟩ := e8 (by omega)
      rw [show n' = 0 by omega, hs, hq, show ((0 : Nat) : Int) = 0 from rfl, fits_first x hh] at hf
      cases hf
    · exact hz
  have hcs : (s'.toNat : Int) = s' := by omega
  refine ⟨k, s'.toNat, q', e3, e2, by omega, by omega, hpos, fun hz => e7 (by omega), ?_, by omega, fun hk => ?_⟩
  · have hne' : (body.isEmpty && q.isEmpty) = false := by
      cases body with
      | nil => cases q with
        | nil => simp at hne
        | cons => rfl
      | cons => rfl
    rw [setM, hne', e]
    simp only [Bool.false_eq_true, if_false]
    rw [show n'.toNat = k by omega]
  · obtain ⟨x, hx, hf⟩ := e8 hk
    refine ⟨x, hx, ?_⟩
    rw [hcs, show (k : Int) = n' by omega]
    exact hf
theorem set_nil (h : Int) (notes : List (List Line)) (f : Nat) : setM h notes f [] [] = [] := by cases f <;> rfl
theorem set_order (h : Int) (hh : 4 ≤ h) (notes : List (List Line)) : ∀ (f : Nat) (body q : List Line), body.length + q.length + sumR notes body < f →
    (setM h notes f body q).flatMap (·.body) = body ∧ (setM h notes f body q).flatMap (·.notes) = q ++ notesOf notes body ∧ (setM h notes f body q).length ≤ body.length + q.length + sumR notes body ∧ ∀ p ∈ setM h notes f body q, 1 ≤ usedM p ∧ usedM p ≤ h
  | 0, _, _, hf => by omega
  | f + 1, body, q, hf => by
    rcases Nat.eq_zero_or_pos (body.length + q.length) with hz | hne
    · have h1 : body = [] := List.eq_nil_of_length_eq_zero (by omega)
      have h2 : q = [] := List.eq_nil_of_length_eq_zero (by omega)
      subst h1 h2
      rw [set_nil]
      exact ⟨rfl, by simp [notesOf, refs], by simp, by simp⟩
    · obtain ⟨k, m, q', e1, e2, e3, e4, e5, e6, e7, _, _⟩ := set_step h hh notes f body q hne
      have hb : body = body.take k ++ body.drop k := (List.take_append_drop k body).symm
      have hsum : sumR notes body = sumR notes (body.take k) + sumR notes (body.drop k) := by
        rw [← notesOf_len, ← notesOf_len, ← notesOf_len, ← List.length_append, ← notesOf_append, ← hb]
      have hq' : q'.length = q.length + sumR notes (body.take k) := by rw [e1, List.length_append, notesOf_len]
      have hd1 : (body.drop k).length = body.length - k := List.length_drop
      have hd2 : (q'.drop m).length = q'.length - m := List.length_drop
      obtain ⟨i1, i2, i3, i4⟩ := set_order h hh notes f (body.drop k) (q'.drop m) (by omega)
      rw [e7]
      refine ⟨?_, ?_, by simp only [List.length_cons]; omega, fun p hp => ?_⟩
      · rw [List.flatMap_cons, i1]
        exact hb.symm
      · rw [List.flatMap_cons, i2]
        simp only
        rw [← List.append_assoc, List.take_append_drop, e1, List.append_assoc, ← notesOf_append, ← hb]
      · rcases List.mem_cons.1 hp with rfl | hp
        · unfold usedM
          simp only [List.length_take]
          omega
        · exact i4 p hp
end Go.Proofs.YtocoinkhbjlbhaaDoor
end

section
namespace Go.Proofs.YtocoinkhbjlbhaaDoor
open Go Go.RowKit
end Go.Proofs.YtocoinkhbjlbhaaDoor
end

section
namespace Go.Proofs.YtocoinkhbjlbhaaDoor
end Go.Proofs.YtocoinkhbjlbhaaDoor
end

section
namespace Go.Proofs.YtocoinkhbjlbhaaDoor
open Go Go.RowKit
end Go.Proofs.YtocoinkhbjlbhaaDoor
end

section
namespace Go.Proofs.YtocoinkhbjlbhaaDoor
end Go.Proofs.YtocoinkhbjlbhaaDoor
end

section
namespace Go.Proofs.YtocoinkhbjlbhaaDoor
open Go Go.RowKit
section
variable {P : Program} {N : Nat} {fr : Fr} {w : World} {Ψ : Value → World → Prop} {d : Option Tmp} {ty : TypeId} {pos : String} {aft : Array Edge} {g : Option (Nat × Bool)}
end
end Go.Proofs.YtocoinkhbjlbhaaDoor
end

section
namespace Go.Proofs.YtocoinkhbjlbhaaDoor
end Go.Proofs.YtocoinkhbjlbhaaDoor
end

section
namespace Go.Proofs.YtocoinkhbjlbhaaDoor
end Go.Proofs.YtocoinkhbjlbhaaDoor
end

section
namespace Go.Proofs.YtocoinkhbjlbhaaDoor
open Go Go.RowKit
section
variable {N : Nat} {fr : Fr} {w : World} {Ψ : Value → World → Prop} {d : Option Tmp} {ty : TypeId} {pos : String} {aft : Array Edge} {g : Option (Nat × Bool)}
end
end Go.Proofs.YtocoinkhbjlbhaaDoor
end

section
namespace Go.Proofs.YtocoinkhbjlbhaaDoor
open Go Go.RowKit
theorem aro_rng {n m : Int} (hm : 1 ≤ m) (h : I64 m) : Rng .i64 (aro n m) := by
  have := aro_bd n m hm
  unfold I64 at h
  exact rng64 (by omega)
theorem around03_f {n m : Int} (h : 1 ≤ m) : Fn Tryd.prog 19 [pI n, pI m] (pI (aro n m)) := ⟨ent19, fun M w vs _ _ hf => by
  match vs, hf with
  | [u, v], ⟨⟨h1, h2⟩, ⟨h3, h4⟩, _⟩ =>
    subst h1 h3
    exact (around03 n m w (h2.1 rfl) h).mono fun u w' ⟨e, e2⟩ => ⟨⟨e, aro_rng h (h4.1 rfl)⟩, e2 ▸ Below.refl _ _⟩⟩
theorem height_f {n : Int} : Fn Tryd.prog 21 [pI n] (pI (4 + aro n 97)) := ⟨ent21, fun M w vs _ _ hf => by
  match vs, hf with
  | [u], ⟨⟨h1, h2⟩, _⟩ =>
    subst h1
    have := aro_bd n 97 (by omega)
    exact (height_c n w (h2.1 rfl)).mono fun u w' ⟨e, e2⟩ => ⟨⟨e, rng64 (by omega)⟩, e2 ▸ Below.refl _ _⟩⟩
theorem lives27_f : Fn Tryd.prog 25 [] (pB true) := ⟨ent25, fun M w vs hm hl0 hf => by
  match vs, hf with
  | [], _ => exact lives_c M w hm⟩
end Go.Proofs.YtocoinkhbjlbhaaDoor
end

section
namespace Go.Proofs.YtocoinkhbjlbhaaDoor
open Go Go.RowKit
end Go.Proofs.YtocoinkhbjlbhaaDoor
end

section
namespace Go.Proofs.YtocoinkhbjlbhaaDoor
open Go Go.RowKit
end Go.Proofs.YtocoinkhbjlbhaaDoor
end

section
namespace Go.Proofs.YtocoinkhbjlbhaaDoor
end Go.Proofs.YtocoinkhbjlbhaaDoor
end

section
namespace Go.Proofs.YtocoinkhbjlbhaaDoor
open Go Go.RowKit
section
variable {P : Program} {N : Nat} {G : TF} {d : Option Tmp} {ty : TypeId} {pos : String} {aft : Array Edge} {g : Option (Nat × Bool)}
end
instance : FOc Tryd.prog 57 3 4 := ⟨fdP3⟩
instance : FOc Tryd.prog 57 4 5 := ⟨fdP4⟩
instance : T1c Tryd.prog 33 := ⟨24, _, tdSL⟩
theorem chk_rng (body : List Line) (notes : List (List Line)) (h : Int) : Rng .i64 (chkM body notes h) := by
  refine rng64 ?_
  unfold chkM
  split
  · omega
  · split
    · omega
    · split
      · omega
      · split <;> omega
theorem setP_f {body : List Line} {notes : List (List Line)} {h : Int} (hsz : chkM body notes h = 0 → body.length ≤ 1000000 ∧ sumR notes body ≤ 1000000) :
    Fn Tryd.prog 23 [pSl eLine body, pSl (eSl eLine) notes, pI h] (pT2 (pSl ePg (if chkM body notes h = 0 then setAll h body notes else [])) (pI (chkM body notes h))) := ⟨ent23, fun M w vs hm hl0 hf => by
  match vs, hf with
  | [u, v, x], ⟨h1, h2, ⟨h3, h4⟩, _⟩ =>
    subst h3
    exact (set_c M u v body notes h w hm h1 h2 (h4.1 rfl) hsz).mono fun r w' ⟨⟨vp, e, hp⟩, hb⟩ => ⟨⟨vp, _, e, hp, rfl, chk_rng body notes h⟩, hb⟩⟩
end Go.Proofs.YtocoinkhbjlbhaaDoor
end
