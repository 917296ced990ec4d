/-
  PageCovers: for all inputs the law returns true, and the inputs read as they did; the table of widths is tied to the text.
-/
import Derived.Calls
import Derived.Orders
import Derived.Below
import Derived.KernelRfl
import Derived.WalkKit
import Derived.Laws.AppendOwn
import Derived.Laws.Rows
import Derived.Deep.Slices
import Derived.Laws.OwnMore
import Derived.Laws.MakeOwn
import Derived.Laws.CopyRow
import Derived.Still
import Derived.Lib.SliceRun
import Derived.Test.YtocoinkhbjlbhaaDoorChecked
import Derived.Lib.AppendZeros
import Derived.Scope
import Derived.SizedLaws
import Derived.Test.YtocoinkhbjlbhaaDoorRows
import Derived.Test.YtocoinkhbjlbhaaDoorCards
import Derived.Test.YtocoinkhbjlbhaaDoorTie
import Derived.Lib.LaidTab
import Derived.LaidMore
import Derived.SevenTiedAt
import Derived.ProofKit
import Derived.OpenShut
import Derived.ChangeOld
import Derived.Test.YtocoinkhbjlbhaaDoorPCx4
section
namespace Go.Proofs.YtocoinkhbjlbhaaDoor
open Go Go.RowKit
def errP (t : Tx) (m h : Int) : Int := if errT t m ≠ 0 then errT t m else chkM (bodyT t m) (notesT t m) h
def pagesT (t : Tx) (m h : Int) : List Pg := if errP t m h = 0 then setAll h (bodyT t m) (notesT t m) else []
def SzT (t : Tx) : Prop := ∀ m, errT t m = 0 → (bodyT t m).length ≤ 1000000 ∧ sumR (notesT t m) (bodyT t m) ≤ 1000000
theorem pageText_f {t : Tx} {m h : Int} (h48 : (t.paras.length + t.notes.length) * 24 ≤ 140737488351232) (hsz : SzT t) :
    Fn Tryd.prog 20 [pV eText t, pI m, pI h] (pT2 (pSl ePg (pagesT t m h)) (pI (errP t m h))) := by
  refine fn_of ent20 Tryd.func20 rfl Tryd.ntmps20 rfl fun M0 w0 => ?_
  by_cases he : errT t m = 0
  · have hs := setP_f (body := bodyT t m) (notes := notesT t m) (h := h) (fun _ => hsz m he)
    have hl := linesT_f (t := t) (m := m) h48
    have e1 : errP t m h = chkM (bodyT t m) (notesT t m) h := by unfold errP; rw [if_neg (fun c => c he)]
    have e2 : pagesT t m h = if chkM (bodyT t m) (notesT t m) h = 0 then setAll h (bodyT t m) (notesT t m) else [] := by unfold pagesT; rw [e1]
    rw [he, if_pos rfl, if_pos rfl] at hl
    rw [e1, e2]
    (repeat (first | refine c_seq ?_ | refine c_reg ?_ | refine c_rnil ?_ | refine c_skip ?_ | refine c_false ?_ | refine c_op (by first | exact t_call (h := hl) | exact t_call (h := hs) | exact t_move | exact t_assign | exact t_neqF | exact t_ext0 | exact t_ext1 | exact t_ext30 | exact t_ext31 | exact t_ext32 | exact t_load | exact t_boxP | fail) ?_ | fail))
    refine c_ret2 Tryd.func20 rfl ?_
    exact fun h1 h2 => ⟨_, _, rfl, h1, h2⟩
  · have hl := linesT_f (t := t) (m := m) h48
    have e1 : errP t m h = errT t m := by unfold errP; rw [if_pos he]
    have e2 : pagesT t m h = [] := by unfold pagesT; rw [e1, if_neg he]
    rw [e1, e2]
    (repeat (first | refine c_seq ?_ | refine c_reg ?_ | refine c_rnil ?_ | refine c_true ?_ | refine c_op (by first | exact t_call (h := hl) | exact t_move | exact t_assign | exact t_neqT | exact t_ext30 | exact t_ext31 | exact t_ext32 | exact t_load | exact t_boxP | fail) ?_ | fail))
    refine c_ret2 Tryd.func20 rfl ?_
    exact fun h1 h2 => ⟨_, _, rfl, by rw [show _ = _ from h1]; exact SlOf.nil _ _ _, h2⟩
theorem segW_all {ws : List Wd} {a b c : Int} (h0 : 0 ≤ a) (h1 : a ≤ b) (h2 : b ≤ c) : segW ws a c = segW ws a b ++ segW ws b c := by
  unfold segW
  rw [show c.toNat - a.toNat = (b.toNat - a.toNat) + (c.toNat - b.toNat) by omega, List.take_add, List.drop_drop]
  congr 3
  omega
theorem refs_lnGo {ws : List Wd} {first m : Int} : ∀ (l : List Int) (a : Int), 0 ≤ a → ordE ws.length a l = true → refs (lnGo ws first m a l) = notesW (segW ws a ws.length)
  | [], a, h0, h => by
    have := ordE_nil h
    have e : segW ws a ws.length = [] := by unfold segW; rw [this]; simp
    rw [e]; rfl
  | e :: r, a, h0, h => by
    obtain ⟨o1, o2, o3⟩ := ordE_cons h
    have ih := refs_lnGo (ws := ws) (first := first) (m := m) r e (by omega) o3
    rw [segW_all h0 (show a ≤ e by omega) o2, notesW_append, ← ih]
    rfl
theorem refs_lns {ws : List Wd} {first m : Int} (h : OKR ws) (hm : 500 ≤ m) : refs (lnsM ws first m) = notesW ws := by
  unfold lnsM
  have ho := ends_ord hm h.ok
  rw [widsW_len] at ho
  rw [refs_lnGo _ 0 (by omega) ho]
  unfold segW
  simp
theorem refs_body {m : Int} (hm : 500 ≤ m) : ∀ (ps : List (List Wd)) (first : Int), (∀ p ∈ ps, OKR p) → refs (bodyGo m first ps) = notesW ps.flatten
  | [], _, _ => rfl
  | p :: r, first, h => by
    have ih := refs_body hm r (first + p.length) (fun q hq => h q (by simp [hq]))
    simp only [bodyGo, List.flatten_cons, notesW_append]
    rw [← ih, ← refs_lns (first := first) (h p (by simp)) hm]
    unfold refs
    rw [List.flatMap_append]
theorem notesW_nts (l : List Wd) : notesW l = (nts l).map fun n => n - 1 := by unfold notesW nts; rw [List.map_map]; rfl
theorem seqI_map : ∀ (c : Nat) (a : Int), (seqI a c).map (fun n => n - 1) = seqI (a - 1) c
  | 0, _ => rfl
  | c + 1, a => by
    simp only [seqI, List.map_cons, seqI_map c (a + 1)]
    congr 2
    omega
theorem ordM_seq (k : Int) : ∀ (c : Nat) (a : Int), a + c ≤ k → ordM (seqI a c) a k = some (a + c)
  | 0, a, _ => by simp [seqI, ordM]
  | c + 1, a, h => by
    simp only [seqI, ordM]
    rw [if_neg (by omega), ordM_seq k c (a + 1) (by omega)]
    congr 1
    omega
theorem lns_ne {ws : List Wd} {first m : Int} (h : OKR ws) (hm : 500 ≤ m) (h1 : 1 ≤ ws.length) : lnsM ws first m ≠ [] := fun hc => by
  unfold lnsM at hc
  have ho := ends_ord hm h.ok
  have hl := congrArg List.length hc
  rw [lnGo_len] at hl
  rw [List.eq_nil_of_length_eq_zero hl] at ho
  have := ordE_nil ho
  rw [widsW_len] at this
  omega
theorem notesGo_ne {m : Int} (hm : 500 ≤ m) : ∀ (ps : List (List Wd)) (first : Int), (∀ p ∈ ps, OKR p ∧ 1 ≤ p.length) → ∀ x ∈ notesGo m first ps, x ≠ []
  | [], _, _, x, hx => by cases hx
  | p :: r, first, h, x, hx => by
    simp only [notesGo, List.mem_cons] at hx
    rcases hx with rfl | hx
    · exact lns_ne (h p (by simp)).1 hm (h p (by simp)).2
    · exact notesGo_ne hm r _ (fun q hq => h q (by simp [hq])) x hx
theorem notesGo_len {m : Int} : ∀ (ps : List (List Wd)) (first : Int), (notesGo m first ps).length = ps.length
  | [], _ => rfl
  | p :: r, first => by simp [notesGo, notesGo_len r]
theorem VT.okt {t : Tx} (h : VT t) : OKT t := okt_of h.chk
theorem VT.err {t : Tx} (h : VT t) {m : Int} (hm : 500 ≤ m ∧ m ≤ 2000) : errT t m = 0 := by
  unfold errT
  rw [if_neg (fun c => c h.chk), if_neg (by omega)]
theorem VT.refs {t : Tx} (h : VT t) {m : Int} (hm : 500 ≤ m) : Go.Proofs.YtocoinkhbjlbhaaDoor.refs (bodyT t m) = seqI 0 t.notes.length := by
  unfold bodyT
  rw [refs_body hm _ _ h.okt.par, notesW_nts, h.seq, seqI_map]
  rfl
theorem VT.chkM {t : Tx} (h : VT t) {m x : Int} (hm : 500 ≤ m) (hx : 4 ≤ x ∧ x ≤ 100) : Go.Proofs.YtocoinkhbjlbhaaDoor.chkM (bodyT t m) (notesT t m) x = 0 := by
  unfold Go.Proofs.YtocoinkhbjlbhaaDoor.chkM
  have hne := notesGo_ne hm t.notes (wordsN t.paras) (fun p hp => ⟨h.okt.not p hp, (h.len p (List.mem_append_right _ hp)).1⟩)
  have hln : (notesT t m).length = t.notes.length := notesGo_len _ _
  rw [if_neg (by omega), if_neg, h.refs hm, hln]
  · have := ordM_seq t.notes.length t.notes.length 0 (by omega)
    rw [this]
    simp
  · rw [Bool.not_eq_true, List.any_eq_false]
    intro y hy
    have := hne y hy
    simpa using this
theorem bodyGo_len {m : Int} (hm : 500 ≤ m) : ∀ (ps : List (List Wd)) (first : Int), (∀ p ∈ ps, OKR p) → (bodyGo m first ps).length ≤ wordsN ps
  | [], _, _ => by simp [bodyGo, wordsN]
  | p :: r, first, h => by
    have ih := bodyGo_len hm r (first + p.length) (fun q hq => h q (by simp [hq]))
    have h1 := lnsM_len (first := first) (h p (by simp)) hm
    have e : wordsN (p :: r) = p.length + wordsN r := by simp [wordsN]
    simp only [bodyGo, List.length_append]
    omega
theorem seqI_len : ∀ (c : Nat) (a : Int), (seqI a c).length = c
  | 0, _ => rfl
  | c + 1, a => by simp [seqI, seqI_len c]
theorem flatMap_len {α β : Type} {f : α → List β} {k : Nat} : ∀ {l : List α}, (∀ x ∈ l, (f x).length ≤ k) → (l.flatMap f).length ≤ l.length * k
  | [], _ => by simp
  | x :: r, h => by
    have ih := flatMap_len (l := r) (f := f) (k := k) (fun y hy => h y (by simp [hy]))
    have := h x (by simp)
    simp only [List.flatMap_cons, List.length_append, List.length_cons, Nat.succ_mul]
    omega
theorem VT.sz {t : Tx} (h : VT t) : SzT t := fun m he => by
  have hm : 500 ≤ m := by
    unfold errT at he
    rw [if_neg (fun c => c h.chk)] at he
    split at he
    · cases he
    · omega
  have h1 := bodyGo_len hm t.paras 0 h.okt.par
  have h2 := wordsN_le (l := t.paras) (fun p hp => (h.okt.par p hp).len)
  have h3 := h.np
  have h4 := h.nn
  refine ⟨by unfold bodyT; omega, ?_⟩
  unfold sumR
  rw [h.refs hm]
  have := flatMap_len (f := noteAt (notesT t m)) (k := 500) (l := seqI 0 t.notes.length) (fun x _ => by
    unfold noteAt
    cases hg : (notesT t m)[x.toNat]? with
    | none => simp
    | some y =>
      have hy := List.mem_of_getElem? hg
      have : ∀ (ps : List (List Wd)) (first : Int), (∀ p ∈ ps, OKR p) → ∀ y ∈ notesGo m first ps, y.length ≤ 500 := by
        intro ps
        induction ps with
        | nil => intro _ _ y hy; cases hy
        | cons p r ih =>
          intro first h y hy
          simp only [notesGo, List.mem_cons] at hy
          rcases hy with rfl | hy
          · have := lnsM_len (first := first) (h p (by simp)) hm
            have := (h p (by simp)).len
            omega
          · exact ih _ (fun q hq => h q (by simp [hq])) y hy
      simpa using this t.notes _ h.okt.not y hy)
  rw [seqI_len] at this
  omega
end Go.Proofs.YtocoinkhbjlbhaaDoor
end

section
namespace Go.Proofs.YtocoinkhbjlbhaaDoor
open Go Go.RowKit
def Chn (g : Bool) : Int → List Line → Int → Prop
  | a, [], b => a = b
  | a, x :: r, b => x.frm = a ∧ a < x.til ∧ (g = true → (x.gaps.length : Int) = x.til - x.frm - 1) ∧ Chn g x.til r b
def lastU (a : Int) (L : List Line) : Int := L.foldl (fun _ x => x.til) a
theorem lastU_append (a : Int) (A B : List Line) : lastU a (A ++ B) = lastU (lastU a A) B := by unfold lastU; rw [List.foldl_append]
theorem chn_split {g : Bool} : ∀ {A B : List Line} {a c : Int}, Chn g a (A ++ B) c → Chn g a A (lastU a A) ∧ Chn g (lastU a A) B c
  | [], B, a, c, h => ⟨rfl, h⟩
  | x :: A, B, a, c, h => by
    obtain ⟨h1, h2, h3, h4⟩ := h
    obtain ⟨i1, i2⟩ := chn_split (A := A) h4
    exact ⟨⟨h1, h2, h3, i1⟩, i2⟩
theorem chn_join {g : Bool} : ∀ {A B : List Line} {a b c : Int}, Chn g a A b → Chn g b B c → Chn g a (A ++ B) c
  | [], B, a, b, c, h, h2 => by
    obtain rfl : a = b := h
    exact h2
  | x :: A, B, a, b, c, h, h2 => ⟨h.1, h.2.1, h.2.2.1, chn_join h.2.2.2 h2⟩
theorem chn_end {g : Bool} : ∀ {A : List Line} {a b : Int}, Chn g a A b → lastU a A = b
  | [], _, _, h => h
  | _ :: A, _, _, h => chn_end (A := A) h.2.2.2
theorem chn_le {g : Bool} : ∀ {A : List Line} {a b : Int}, Chn g a A b → a ≤ b
  | [], _, _, h => by
    unfold Chn at h
    omega
  | _ :: A, _, _, h => by
    have := chn_le (A := A) h.2.2.2
    have := h.2.1
    omega
theorem chn_at {g : Bool} {A B : List Line} {x : Line} {a c : Int} (h : Chn g a (A ++ x :: B) c) : x.frm = lastU a A ∧ lastU a A < x.til ∧ (g = true → (x.gaps.length : Int) = x.til - x.frm - 1) ∧ a ≤ x.frm ∧ x.til ≤ c := by
  obtain ⟨h0, h1, h2, h3, h4⟩ := chn_split h
  exact ⟨h1, h2, h3, by rw [h1]; exact chn_le h0, chn_le h4⟩
theorem chn_weak : ∀ {A : List Line} {a b : Int}, Chn true a A b → Chn false a A b
  | [], _, _, h => h
  | _ :: _, _, _, h => ⟨h.1, h.2.1, (fun e => by cases e), chn_weak h.2.2.2⟩
theorem chn_lnGo {ws : List Wd} {first m : Int} : ∀ (l : List Int) (a : Int), 0 ≤ a → ordE ws.length a l = true → Chn true (first + a) (lnGo ws first m a l) (first + ws.length)
  | [], a, h0, h => by
    rw [ordE_nil h]
    rfl
  | e :: r, a, h0, h => by
    obtain ⟨h1, h2, h3⟩ := ordE_cons h
    refine ⟨rfl, by simp only []; omega, fun _ => ?_, chn_lnGo r e (by omega) h3⟩
    simp only [gapsM_len]
    have : (seg (widsW ws) a e).length = e.toNat - a.toNat := by
      unfold seg
      rw [List.length_take, List.length_drop, widsW_len]
      omega
    rw [this]
    omega
theorem chn_lns {ws : List Wd} {first m : Int} (h : OKR ws) (hm : 500 ≤ m) : Chn true first (lnsM ws first m) (first + ws.length) := by
  have := chn_lnGo (ws := ws) (first := first) (m := m) (endsM (widsW ws) m) 0 (by omega) (by
    have := ends_ord (m := m) hm (fun x hx => h.ok x hx)
    rwa [widsW_len] at this)
  rwa [Int.add_zero] at this
theorem wordsN_cons (p : List Wd) (r : List (List Wd)) : wordsN (p :: r) = p.length + wordsN r := by simp [wordsN]
theorem chn_body {m : Int} (hm : 500 ≤ m) : ∀ (ps : List (List Wd)) (first : Int), (∀ p ∈ ps, OKR p) → Chn true first (bodyGo m first ps) (first + wordsN ps)
  | [], first, _ => by simp [bodyGo, wordsN, Chn]
  | p :: r, first, h => by
    have h1 := chn_lns (first := first) (h p (by simp)) hm
    have h2 := chn_body hm r (first + p.length) (fun q hq => h q (by simp [hq]))
    rw [wordsN_cons, Int.natCast_add, ← Int.add_assoc]
    exact chn_join h1 h2
theorem chn_notes {m : Int} (hm : 500 ≤ m) : ∀ (ps : List (List Wd)) (first : Int), (∀ p ∈ ps, OKR p) → Chn true first (notesGo m first ps).flatten (first + wordsN ps)
  | [], first, _ => by simp [notesGo, wordsN, Chn]
  | p :: r, first, h => by
    have h1 := chn_lns (first := first) (h p (by simp)) hm
    have h2 := chn_notes hm r (first + p.length) (fun q hq => h q (by simp [hq]))
    rw [wordsN_cons, Int.natCast_add, ← Int.add_assoc, notesGo, List.flatten_cons]
    exact chn_join h1 h2
theorem seqI_range : ∀ (c : Nat) (a : Nat), seqI (a : Int) c = (List.range c).map fun (i : Nat) => ((i + a : Nat) : Int)
  | 0, _ => rfl
  | c + 1, a => by
    rw [seqI, List.range_succ_eq_map, List.map_cons, List.map_map]
    have := seqI_range c (a + 1)
    rw [show ((a : Int) + 1) = ((a + 1 : Nat) : Int) by omega, this]
    congr 1
    · simp
    · refine List.map_congr_left fun i _ => ?_
      simp only [Function.comp]
      omega
theorem notes_seq {body : List Line} {notes : List (List Line)} (h : refs body = seqI 0 notes.length) : notesOf notes body = notes.flatten := by
  unfold notesOf
  rw [h, show (0 : Int) = ((0 : Nat) : Int) from rfl, seqI_range, List.flatMap_map]
  have : ∀ (l : List (List Line)) (a : List (List Line)), (List.range l.length).flatMap (fun (i : Nat) => noteAt (a ++ l) (i + a.length : Nat)) = l.flatten := by
    intro l
    induction l with
    | nil => intro a; rfl
    | cons x l ih =>
      intro a
      rw [List.length_cons, List.range_succ_eq_map, List.flatMap_cons, List.flatMap_map, List.flatten_cons]
      congr 1
      · simp [noteAt]
      · have := ih (a ++ [x])
        simp only [List.append_assoc, List.singleton_append, List.length_append, List.length_singleton] at this
        rw [← this]
        congr 1
        funext i
        congr 2
        simp
        omega
  simpa using this notes []
theorem VT.okr {t : Tx} (h : VT t) : ∀ p ∈ t.paras ++ t.notes, OKR p := fun p hp => (List.mem_append.1 hp).elim (h.okt.par p) (h.okt.not p)
theorem VT.cover {t : Tx} (hv : VT t) {m h : Int} (hm : 500 ≤ m) (hh : 4 ≤ h) (he : errT t m = 0) :
    Chn true 0 ((setAll h (bodyT t m) (notesT t m)).flatMap (·.body)) (wordsN t.paras) ∧
    Chn false (wordsN t.paras) ((setAll h (bodyT t m) (notesT t m)).flatMap (·.notes)) (wordsN t.paras + wordsN t.notes) ∧
    (setAll h (bodyT t m) (notesT t m)).length ≤ 2000000 ∧ ((setAll h (bodyT t m) (notesT t m)).flatMap (·.body)).length ≤ 1000000 ∧ ((setAll h (bodyT t m) (notesT t m)).flatMap (·.notes)).length ≤ 1000000 := by
  obtain ⟨h1, h2, h3, _⟩ := set_order h hh (notesT t m) ((bodyT t m).length + sumR (notesT t m) (bodyT t m) + 1) (bodyT t m) [] (by simp)
  change (setAll h (bodyT t m) (notesT t m)).flatMap (·.body) = _ at h1
  change (setAll h (bodyT t m) (notesT t m)).flatMap (·.notes) = _ at h2
  change (setAll h (bodyT t m) (notesT t m)).length ≤ _ at h3
  obtain ⟨z1, z2⟩ := hv.sz m he
  have z3 : ((setAll h (bodyT t m) (notesT t m)).flatMap (·.notes)).length ≤ 1000000 := by rw [h2, List.nil_append, notesOf_len]; exact z2
  refine ⟨?_, ?_, by simp only [List.length_nil] at h3; omega, by rw [h1]; exact z1, z3⟩
  · have := chn_body hm t.paras 0 (fun p hp => hv.okr p (by simp [hp]))
    rw [h1]
    rwa [Int.zero_add] at this
  · rw [h2, List.nil_append, notes_seq (by rw [hv.refs hm]; unfold notesT; rw [notesGo_len])]
    exact chn_weak (chn_notes hm t.notes (wordsN t.paras) (fun p hp => hv.okr p (by simp [hp])))
end Go.Proofs.YtocoinkhbjlbhaaDoor
end

section
namespace Go.Proofs.YtocoinkhbjlbhaaDoor
open Go Go.RowKit
theorem VT.h48 {t : Tx} (h : VT t) : (t.paras.length + t.notes.length) * 24 ≤ 140737488351232 := by
  have h1 := h.np
  have h2 := h.nn
  omega
theorem textV_f {l : List Int} : Fn Tryd.prog 8 [pSl eI l] (pV eText (textM l)) := text_f.fn
end Go.Proofs.YtocoinkhbjlbhaaDoor
end

section
namespace Go.Proofs.YtocoinkhbjlbhaaDoor
open Go Go.RowKit
theorem flat_at {α β : Type} (f : α → List β) (ps : List α) (i k : Nat) (hi : i < ps.length) (hk : k < (f ps[i]).length) :
    ps.flatMap f = ((ps.take i).flatMap f ++ (f ps[i]).take k) ++ (f ps[i])[k] :: ((f ps[i]).drop (k + 1) ++ (ps.drop (i + 1)).flatMap f) := by
  conv => lhs; rw [← List.take_append_drop i ps, List.drop_eq_getElem_cons hi]
  rw [List.flatMap_append, List.flatMap_cons]
  conv => lhs; arg 2; arg 1; rw [← List.take_append_drop k (f ps[i]), List.drop_eq_getElem_cons hk]
  simp only [List.append_assoc, List.cons_append]
theorem wordsN_takeN {l : List (List Wd)} (i : Nat) : wordsN (l.take i) ≤ wordsN l := by
  conv => rhs; rw [← List.take_append_drop i l]
  unfold wordsN
  rw [List.map_append, List.sum_append]
  omega
theorem VT.words {t : Tx} (h : VT t) : wordsN t.paras ≤ 2000 ∧ wordsN t.notes ≤ 2000 := by
  have h1 := wordsN_le (l := t.paras) (fun p hp => by have := (h.len p (by simp [hp])).2; omega)
  have h2 := wordsN_le (l := t.notes) (fun p hp => by have := (h.len p (by simp [hp])).2; omega)
  have h3 := h.np
  have h4 := h.nn
  omega
set_option maxHeartbeats 4000000 in
theorem pageCovers_f {l : List Int} {a n : Int} : Fn Tryd.prog 6 [pSl eI l, pI a, pI n] (pB true) := by
  have hv := textM_vt l
  have ha := aro_bd a 1501 (by omega)
  have hn := aro_bd n 97 (by omega)
  obtain ⟨t, ht⟩ : ∃ t, t = textM l := ⟨_, rfl⟩
  have tf := textV_f (l := l)
  rw [← ht] at hv tf
  obtain ⟨m, hm⟩ : ∃ m, m = 500 + aro a 1501 := ⟨_, rfl⟩
  obtain ⟨h, hh⟩ : ∃ h, h = 4 + aro n 97 := ⟨_, rfl⟩
  have hm' : 500 ≤ m ∧ m ≤ 2000 := by omega
  have hh' : 4 ≤ h ∧ h ≤ 100 := by omega
  have hf := height_f (n := n)
  rw [← hh] at hf
  have e0 := hv.err hm'
  have c0 := hv.chkM (m := m) hm'.1 hh'
  have eP : errP t m h = 0 := by unfold errP; rw [if_neg (fun c => c e0)]; exact c0
  have pP : pagesT t m h = setAll h (bodyT t m) (notesT t m) := by unfold pagesT; rw [if_pos eP]
  have f1 := pageText_f (m := m) (h := h) hv.h48 hv.sz
  rw [eP, pP] at f1
  obtain ⟨cB, cN, zP, zB, zN⟩ := hv.cover (m := m) hm'.1 hh'.1 e0
  obtain ⟨hw1, hw2⟩ := hv.words
  have hnp := hv.np
  have hnn := hv.nn
  generalize setAll h (bodyT t m) (notesT t m) = ps at *
  refine fn_of ent6 Tryd.func6 rfl Tryd.ntmps6 rfl fun M0 w0 => ?_
  (repeat (first | refine c_seq ?_ | fail))
  refine c_reg ?_
  (repeat (first | refine c_seq ?_ | refine c_rnil ?_ | refine c_op (by first | exact t_assign | fail) ?_ | fail))
  (repeat (first | refine c_seq ?_ | fail))
  refine c_reg ?_
  (repeat (first | refine c_seq ?_ | refine c_rnil ?_ | refine c_op (by first | exact t_call (h := tf) | exact t_move | exact t_allocV | fail) ?_ | refine c_stV ?_ | fail))
  (repeat (first | refine c_seq ?_ | fail))
  refine c_reg ?_
  (repeat (first | refine c_seq ?_ | refine c_rnil ?_ | refine c_op (by first | exact t_call (h := (around03_f (by omega))) | exact t_move | exact t_assign | exact t_add | fail) ?_ | fail))
  refine c_to 8 (.pu (pI m)) ?_ ?_
  · exact has_int rfl hm.symm
  (repeat (first | refine c_seq ?_ | fail))
  refine c_draw0 mixed (by kernel_rfl) ?_
  (repeat (first | refine d_op (by first | exact t_call (h := hf) | exact t_call (h := f1) | exact t_move | exact t_assign | exact t_ext0 | exact t_ext1 | exact t_load | fail) ?_ | fail))
  refine d_nil (q_nil ?_ (by kernel_rfl))
  (repeat (first | refine c_seq ?_ | refine c_reg ?_ | refine c_rnil ?_ | refine c_block ?_ | refine c_skip ?_ | refine c_false ?_ | refine c_op (by first | exact t_move | exact t_assign | exact t_neqF | fail) ?_ | fail))
  refine c_loop (fun i : Nat => [(7, .pu (pPtr eText t)), (9, .pu (pSl ePg ps)), (11, .pu (pI (wordsN (t.paras.take i)))), (12, .pu (pI i))])
    (fun i => i ≤ t.paras.length) (fun i => t.paras.length - i) 0 (by omega) (by repeat (first | exact trivial | refine ⟨has_rfl rfl, ?_⟩ | fail)) fun i hi ih => ?_
  (repeat (first | refine c_seq ?_ | refine c_reg ?_ | refine c_rnil ?_ | refine c_op (by first | exact t_move | exact t_lss | exact t_len | exact t_load | exact t_fa | fail) ?_ | fail))
  refine c_if (fun hlt => ?_) fun hge => ?_
  · have hlt' : i < t.paras.length := by omega
    have e1 := wordsN_take hlt'
    have e2 := wordsN_takeN (l := t.paras) (i + 1)
    (repeat (first | refine c_seq ?_ | refine c_reg ?_ | refine c_rnil ?_ | refine c_block ?_ | refine c_inBlock ?_ | refine c_skip ?_ | refine c_op (by first | exact t_move | exact t_assign | exact t_add | exact t_len | exact t_idxN | exact t_load | exact t_fa | fail) ?_ | fail))
    exact (ih (i + 1) (by omega) (by omega)).sub (by repeat (first | exact trivial | refine ⟨has_rfl rfl, ?_⟩ | refine ⟨has_int rfl (by first | omega | fail), ?_⟩))
  have hie : i = t.paras.length := by omega
  subst hie
  rw [List.take_length]
  (repeat (first | refine c_seq ?_ | refine c_reg ?_ | refine c_rnil ?_ | refine c_block ?_ | refine c_exit ?_ | refine c_op (by first | exact t_move | exact t_assign | fail) ?_ | fail))
  refine c_loop (fun i : Nat => [(7, .pu (pPtr eText t)), (9, .pu (pSl ePg ps)), (11, .pu (pI (wordsN t.paras))), (13, .pu (pI ((wordsN t.paras : Int) + (wordsN (t.notes.take i) : Int)))), (14, .pu (pI i))])
    (fun i => i ≤ t.notes.length) (fun i => t.notes.length - i) 0 (by omega) (by repeat (first | exact trivial | refine ⟨has_rfl rfl, ?_⟩ | fail)) fun i hi ih => ?_
  (repeat (first | refine c_seq ?_ | refine c_reg ?_ | refine c_rnil ?_ | refine c_op (by first | exact t_move | exact t_lss | exact t_len | exact t_load | exact t_fa | fail) ?_ | fail))
  refine c_if (fun hlt => ?_) fun hge => ?_
  · have hlt' : i < t.notes.length := by omega
    have e1 := wordsN_take hlt'
    have e2 := wordsN_takeN (l := t.notes) (i + 1)
    (repeat (first | refine c_seq ?_ | refine c_reg ?_ | refine c_rnil ?_ | refine c_block ?_ | refine c_inBlock ?_ | refine c_skip ?_ | refine c_op (by first | exact t_move | exact t_assign | exact t_add | exact t_len | exact t_idxN | exact t_load | exact t_fa | fail) ?_ | fail))
    exact (ih (i + 1) (by omega) (by omega)).sub (by repeat (first | exact trivial | refine ⟨has_rfl rfl, ?_⟩ | refine ⟨has_int rfl (by first | omega | fail), ?_⟩))
  have hie : i = t.notes.length := by omega
  subst hie
  rw [List.take_length]
  (repeat (first | refine c_seq ?_ | refine c_reg ?_ | refine c_rnil ?_ | refine c_block ?_ | refine c_exit ?_ | refine c_op (by first | exact t_move | exact t_assign | fail) ?_ | fail))
  refine c_loop (fun i : Nat => [(9, .pu (pSl ePg ps)), (11, .pu (pI (wordsN t.paras))), (13, .pu (pI ((wordsN t.paras : Int) + (wordsN t.notes : Int)))), (15, .pu (pI (lastU 0 ((ps.take i).flatMap (·.body))))), (16, .pu (pI (lastU (wordsN t.paras) ((ps.take i).flatMap (·.notes))))), (17, .pu (pI i))])
    (fun i => i ≤ ps.length) (fun i => ps.length - i) 0 (by omega) (by repeat (first | exact trivial | refine ⟨has_rfl rfl, ?_⟩ | fail)) fun i hi ih => ?_
  (repeat (first | refine c_seq ?_ | refine c_reg ?_ | refine c_rnil ?_ | refine c_op (by first | exact t_move | exact t_lss | exact t_len | fail) ?_ | fail))
  refine c_if (fun hlt => ?_) fun hge => ?_
  · have hlt' : i < ps.length := by omega
    have hT1 : (ps.take (i + 1)).flatMap (·.body) = (ps.take i).flatMap (·.body) ++ ps[i].body := flat_take _ ps i hlt'
    have hT2 : (ps.take (i + 1)).flatMap (·.notes) = (ps.take i).flatMap (·.notes) ++ ps[i].notes := flat_take _ ps i hlt'
    have hL1 : ps[i].body.length ≤ 1000000 := by
      have := flat_take_le (fun x : Pg => x.body) ps (i + 1)
      rw [hT1, List.length_append] at this
      omega
    have hL2 : ps[i].notes.length ≤ 1000000 := by
      have := flat_take_le (fun x : Pg => x.notes) ps (i + 1)
      rw [hT2, List.length_append] at this
      omega
    (repeat (first | refine c_seq ?_ | refine c_reg ?_ | refine c_rnil ?_ | refine c_block ?_ | refine c_skip ?_ | refine c_op (by first | exact t_assign | fail) ?_ | fail))
    refine c_loop (fun k : Nat => [(9, .pu (pSl ePg ps)), (11, .pu (pI (wordsN t.paras))), (13, .pu (pI ((wordsN t.paras : Int) + (wordsN t.notes : Int)))), (15, .pu (pI (lastU 0 ((ps.take i).flatMap (·.body) ++ ps[i].body.take k)))), (16, .pu (pI (lastU (wordsN t.paras) ((ps.take i).flatMap (·.notes))))), (17, .pu (pI i)), (18, .pu (pI k))])
      (fun k => k ≤ ps[i].body.length) (fun k => ps[i].body.length - k) 0 (by omega) ⟨has_rfl rfl, has_rfl rfl, has_rfl rfl, has_int rfl (by rw [List.take_zero, List.append_nil]), (by repeat (first | exact trivial | refine ⟨has_rfl rfl, ?_⟩ | fail))⟩ fun k hk ihk => ?_
    (repeat (first | refine c_seq ?_ | refine c_reg ?_ | refine c_rnil ?_ | refine c_op (by first | exact t_move | exact t_lss | exact t_len | exact t_idxN | exact t_load | exact t_fa | fail) ?_ | fail))
    refine c_if (fun hlt2 => ?_) fun hge2 => ?_
    · have hlt2' : k < ps[i].body.length := by omega
      rw [flat_at _ ps i k hlt' hlt2'] at cB
      obtain ⟨q1, q2, q3, q4, q5⟩ := chn_at cB
      replace q3 := q3 rfl
      (repeat (first | refine c_seq ?_ | refine c_reg ?_ | refine c_rnil ?_ | refine c_block ?_ | refine c_inBlock ?_ | refine c_skip ?_ | refine c_false ?_ | refine c_yes ?_ | refine c_op (by first | exact t_move | exact t_assign | exact t_pickF | exact t_add | exact t_sub | exact t_leqF | exact t_neqF | exact t_len | exact t_idxN | exact t_load | exact t_fa | exact t_allocV | fail) ?_ | refine c_stV ?_ | fail))
      refine (ihk (k + 1) (by omega) (by omega)).sub ?_
      exact ⟨has_rfl rfl, has_rfl rfl, has_rfl rfl, has_int rfl (by rw [List.take_succ_eq_append_getElem hlt2', ← List.append_assoc, lastU_append]; rfl), (by repeat (first | exact trivial | refine ⟨has_rfl rfl, ?_⟩ | fail))⟩
    have hke : k = ps[i].body.length := by omega
    subst hke
    rw [List.take_length, ← hT1]
    (repeat (first | refine c_seq ?_ | refine c_reg ?_ | refine c_rnil ?_ | refine c_block ?_ | refine c_exit ?_ | refine c_op (by first | exact t_assign | fail) ?_ | fail))
    refine c_loop (fun k : Nat => [(9, .pu (pSl ePg ps)), (11, .pu (pI (wordsN t.paras))), (13, .pu (pI ((wordsN t.paras : Int) + (wordsN t.notes : Int)))), (15, .pu (pI (lastU 0 ((ps.take (i + 1)).flatMap (·.body))))), (16, .pu (pI (lastU (wordsN t.paras) ((ps.take i).flatMap (·.notes) ++ ps[i].notes.take k)))), (17, .pu (pI i)), (20, .pu (pI k))])
      (fun k => k ≤ ps[i].notes.length) (fun k => ps[i].notes.length - k) 0 (by omega) ⟨has_rfl rfl, has_rfl rfl, has_rfl rfl, has_rfl rfl, has_int rfl (by rw [List.take_zero, List.append_nil]), (by repeat (first | exact trivial | refine ⟨has_rfl rfl, ?_⟩ | fail))⟩ fun k hk ihk => ?_
    (repeat (first | refine c_seq ?_ | refine c_reg ?_ | refine c_rnil ?_ | refine c_op (by first | exact t_move | exact t_lss | exact t_len | exact t_idxN | exact t_load | exact t_fa | fail) ?_ | fail))
    refine c_if (fun hlt2 => ?_) fun hge2 => ?_
    · have hlt2' : k < ps[i].notes.length := by omega
      rw [flat_at _ ps i k hlt' hlt2'] at cN
      obtain ⟨q1, q2, _, q4, q5⟩ := chn_at cN
      (repeat (first | refine c_seq ?_ | refine c_reg ?_ | refine c_rnil ?_ | refine c_block ?_ | refine c_inBlock ?_ | refine c_skip ?_ | refine c_false ?_ | refine c_yes ?_ | refine c_op (by first | exact t_move | exact t_assign | exact t_pickF | exact t_add | exact t_leqF | exact t_neqF | exact t_idxN | exact t_load | exact t_fa | exact t_allocV | fail) ?_ | refine c_stV ?_ | fail))
      refine (ihk (k + 1) (by omega) (by omega)).sub ?_
      exact ⟨has_rfl rfl, has_rfl rfl, has_rfl rfl, has_rfl rfl, has_int rfl (by rw [List.take_succ_eq_append_getElem hlt2', ← List.append_assoc, lastU_append]; rfl), (by repeat (first | exact trivial | refine ⟨has_rfl rfl, ?_⟩ | fail))⟩
    have hke : k = ps[i].notes.length := by omega
    subst hke
    rw [List.take_length, ← hT2]
    (repeat (first | refine c_reg ?_ | refine c_rnil ?_ | refine c_inBlock ?_ | refine c_exit ?_ | refine c_op (by first | exact t_move | exact t_assign | exact t_add | fail) ?_ | fail))
    exact (ih (i + 1) (by omega) (by omega)).sub (by repeat (first | exact trivial | refine ⟨has_rfl rfl, ?_⟩ | fail))
  have hie : i = ps.length := by omega
  subst hie
  rw [List.take_length]
  have eB := chn_end cB
  have eN := chn_end cN
  (repeat (first | refine c_seq ?_ | refine c_reg ?_ | refine c_rnil ?_ | refine c_exit ?_ | refine c_yes ?_ | refine c_op (by first | exact t_call (h := lives27_f) | exact t_move | exact t_assign | exact t_pickT | exact t_eqlT | fail) ?_ | fail))
  refine c_ret1 Tryd.func6 rfl ?_
  exact fun h => h
end Go.Proofs.YtocoinkhbjlbhaaDoor
end

section
namespace Go.Proofs.YtocoinkhbjlbhaaDoor
set_option maxRecDepth 100000
open Go Go.RowKit Go.Deep
def Rd {α : Type} (P : Program) (E : Enc α) (t : TypeId) : Prop := ∀ {H : Type} {enc : TypeId × Value → H} {W : World} {base : Nat} {spare : Nat → Bool} {held : Bool} {fuel : Nat} {cs : List Value} {x : DataW H × List MemPlace},
  DataW.trod enc P W base spare held fuel t cs = some x → (∀ n ∈ x.1.weights P t, n ≤ reachBytes) → ∃ d, E.R (fun _ => none) W cs d
section
variable {P : Program}
theorem rd_int {t : TypeId} (ht : P.underlying t = some (.int .i64)) : Rd P eI t := fun h _ => by
  obtain ⟨n, rfl, _, hw⟩ := DataW.trod_int ht h
  refine ⟨n, rfl, fun _ => ?_, fun e => by cases e⟩
  simp [Lit.wf] at hw
  exact hw
theorem weights_all {H : Type} {e : TypeId} : ∀ {l : List (DataW H)} {d : DataW H}, d ∈ l → ∀ n ∈ d.weights P e, n ∈ DataW.weightsAll P e l
  | x :: r, d, hd, n, hn => by
    simp only [DataW.weightsAll, List.mem_append]
    rcases List.mem_cons.1 hd with rfl | hd
    · exact .inl hn
    · exact .inr (weights_all hd n hn)
theorem rd_slice {α : Type} [Inhabited α] {E : Enc α} {t e : TypeId} (ht : P.underlying t = some (.slice e)) (hC : P.cellsOf e = E.sz) (hB : P.bytesOf e = E.by_) (hE : Rd P E e) : Rd P (eSl E) t := fun {H enc W base spare held fuel cs x} h hw => by
  rcases open_slice ht h with ⟨rfl, _⟩ | ⟨a, len, cap, m, n, D, Pl, rfl, hb, hl, hm, hmm, hx, hi⟩
  · exact ⟨[], _, rfl, SlOf.nil _ _ _⟩
  · subst hx
    simp only [DataW.weights, ht] at hw
    have hle : len ≤ m := by rw [hmm]; split <;> omega
    have hbytes : len * E.by_ ≤ 140737488351232 := by
      have := hw _ (by exact List.mem_cons_self)
      simp only [List.length_map, List.length_range, hB] at this
      have h2 : len * E.by_ ≤ (len + (m - len)) * E.by_ := Nat.mul_le_mul_right _ (by omega)
      exact Nat.le_trans h2 this
    have hel : ∀ i, i < len → ∃ d, Elem E (fun _ => none) W (a.add (i * E.sz)) d := fun i hi' => by
      obtain ⟨cs', hc, htr⟩ := hi i (by omega)
      obtain ⟨d, hd⟩ := hE htr (fun k hk => hw k (List.mem_cons_of_mem _ (List.mem_append_left _ (weights_all (List.mem_map.2 ⟨i, List.mem_range.2 hi', rfl⟩) k hk))))
      rw [hC] at hc
      obtain ⟨_, hcl, hat⟩ := World.cells?_some hc
      refine ⟨d, cs', hd, fun j c hj => ?_⟩
      have hjl : j < cs'.length := (List.getElem?_eq_some_iff.1 hj).1
      have := hat j (by omega)
      exact ⟨this.trans hj, fun p hp => by cases hp⟩
    obtain ⟨f, hf⟩ := choose_lt hel
    refine ⟨(List.range len).map f, _, rfl, a, cap, by simp, by simpa using hl, hm, (fun h => by cases h), by simpa using hbytes, fun ad he i hi' => ?_⟩
    cases he
    have hi2 : i < len := by simpa using hi'
    have := hf i hi2
    simpa using this
end
instance : Inhabited Line := ⟨⟨0, 0, [], []⟩⟩
theorem rdI : Rd Tryd.prog eI 3 := rd_int Tryd.underlying3
theorem rdSI : Rd Tryd.prog (eSl eI) 22 := rd_slice Tryd.underlying22 (by kernel_rfl) (by kernel_rfl) rdI
end Go.Proofs.YtocoinkhbjlbhaaDoor
end

section
namespace Go.Proofs.YtocoinkhbjlbhaaDoor
open Go Go.ChangeShapes Go.WideShapes Go.ChangeAt Go.RowKit
theorem pageCoversOwn : ownKnob Tryd.prog.godebug = none := by kernel_rfl
theorem pageCoversLaid : laidOutB Tryd.prog = true := by kernel_rfl
theorem pageCoversWf {n : Int} (h : (Lit.int .i64 n).wf = true) : I64 n := by
  simp [Lit.wf] at h
  exact h
abbrev pageCoversTab : List (String × DataW Unit) := [("rollbook/glyph.widths", Lib.tabData .u8 tbl)]
theorem pageCoversTabs {W : World} (h : laidMetH Tryd.prog pageCoversTab W) : Lays (fun _ => none) W := by
  rw [MakeChecks.laidMetH_plain _ _ _ (by kernel_rfl)] at h
  have hg : Tryd.prog.globalNamed "rollbook/glyph.widths" = some 0 := by kernel_rfl
  have hT := Lib.tabIs_of_head hg (t := 96) (e := 5) (n := 94) (by kernel_rfl) (by kernel_rfl) (by kernel_rfl) (by kernel_rfl) (by kernel_rfl) h
  refine ⟨fun i hi => ⟨?_, fun _ e => by cases e⟩⟩
  have := hT.cell hg i hi
  rw [List.getD_eq_getElem?_getD, List.getElem?_eq_getElem hi] at this
  exact this
theorem pageCoversDoor (os : Os) (args : Array Value) : laidMetH Tryd.prog pageCoversTab ((World.doorLaid Tryd.prog 400 os).forCall (fun _ _ => 0) ⟨#[], args, []⟩).memory :=
  laidMetH_of_parts3 (fuel := 8) (laidMet_of_run' 8 (by kernel_rfl) (by kernel_rfl)) (by kernel_rfl) (by kernel_rfl)
set_option maxRecDepth 100000 in
theorem pageCoversLifted (os : Os) (started : os.Started) (H : Type) (enc : TypeId × Value → H) :
    ReturnsInHanded {} Tryd.checked os 6 .any (fun w args => (Rows.pageCoversSpec.pre enc Tryd.prog Tryd.f6 [] false w args ∧ laidMetH Tryd.prog pageCoversTab w) ∧ sizedMet enc Tryd.prog Tryd.f6 (OpenSpec.ofChange Rows.pageCoversSpec) false w args)
      (Rows.pageCoversSpec.post enc Tryd.prog Tryd.f6 false true false false) := by
  refine returnsInHanded_of_change_and (C := Tryd.checked) (X := fun w _ => laidMetH Tryd.prog pageCoversTab w) (fun _ _ _ hh h => h.of_heap hh) pageCoversOwn started (by kernel_rfl) Tryd.func6
    (ChangeSpec.witness_shaped (enc := enc) (C := Tryd.checked) (os := os) (X := fun w _ => laidMetH Tryd.prog pageCoversTab w) false (World.doorLaid Tryd.prog 400 os) #[.slice none 0 0, .int .i64 0, .int .i64 0] 8 rfl (World.shaped_of_RefB (by kernel_rfl) (by kernel_rfl)) (by kernel_rfl) (by kernel_rfl) (by kernel_rfl) (pageCoversDoor os _)) ?_
  intro W base args ds gs before hval0 hW hcnd hsz hL _
  have hval : ∀ (j : Nat) t v, Tryd.f6.params[j]? = some t → args[j]? = some v → Value.okWide Tryd.prog W .any base t v := hval0
  have hW' := hW
  obtain ⟨p, q, hA0, hV, rfl, hfz, hnd⟩ := hW
  have hA : DataW.TrodAll enc Tryd.prog W 0 (fun _ => true) true Tryd.f6.params.toList args.toList ds p := hA0
  rw [Tryd.params6] at hA hval
  obtain ⟨v0, vs0, d0, ds0, p0, q0, hargs, rfl, rfl, h0, r0⟩ := trodAll_cons hA
  obtain ⟨v1, vs1, d1, ds1, p1, q1, rfl, rfl, rfl, h1, r1⟩ := trodAll_cons r0
  obtain ⟨v2, vs2, d2, ds2, p2, q2, rfl, rfl, rfl, h2, r2⟩ := trodAll_cons r1
  obtain ⟨rfl, rfl, rfl⟩ := trodAll_nil r2
  obtain rfl : args = #[v0, v1, v2] := by cases args; simp_all
  obtain ⟨rfl, rfl⟩ := trodVars_none hV
  obtain ⟨a0, len0, cap0, rfl⟩ := okWide_slice Tryd.underlying22 (hval 0 22 v0 rfl rfl)
  have k0 := h0
  have lt0 : ∀ x ∈ p0, x.block < W.heap.size := by obtain ⟨m, hm⟩ := k0; exact DataW.trod_lt m _ _ _ hm
  obtain ⟨z0, w0⟩ : ∃ l, SlOf eI (fun _ => none) W (.slice a0 len0 cap0) l := by
    obtain ⟨fuel, hf⟩ := h0
    obtain ⟨l, u, hu, hs⟩ := rdSI hf (fun n hn => by
      have := List.all_eq_true.1 hsz n (DataW.weights_mem_each (j := 0) (t := 22) (d := d0) rfl rfl n hn)
      simpa using this)
    simp [Value.cells] at hu
    subst hu
    exact ⟨l, hs⟩
  obtain ⟨a1, rfl, rfl, rfl, w1⟩ := open_int Tryd.underlying3 (hval 1 3 v1 rfl rfl) h1
  obtain ⟨a2, rfl, rfl, rfl, w2⟩ := open_int Tryd.underlying3 (hval 2 3 v2 rfl rfl) h2
  clear hA0 hval0
  refine Calls.mono (pageCovers_f.run (fun _ => none) W [.slice a0 len0 cap0, .int .i64 a1, .int .i64 a2] (fun _ _ => rfl) (pageCoversTabs hL) ⟨w0, ⟨rfl, fun _ => pageCoversWf w1, fun e => by cases e⟩, ⟨rfl, fun _ => pageCoversWf w2, fun e => by cases e⟩, trivial⟩) fun e W' ⟨v, he, hv, bel⟩ => ?_
  have hv : v = .bool true := hv
  subst he hv
  exact ⟨_, rfl, _, _, _, [], _, [], hW', trodAll_mk1 (shut_bool Tryd.underlying4 _), (trodAll_cons_mk (Below.trod pageCoversLaid (by kernel_rfl) (of_decide_eq_true (by kernel_rfl)) k0 bel lt0) (trodAll_cons_mk (shut_int Tryd.underlying3 w1) (trodAll_cons_mk (shut_int Tryd.underlying3 w2) trodAll_mk0))), rfl, bel.frame _, fun h => by cases h⟩
theorem pageCovers_proved : Rows.PageCoversSaid :=
  OpenClaim.holds_of_wide 6 Tryd.f6 rfl rfl rfl rfl rfl rfl rfl ⟨rfl, rfl, rfl, rfl, rfl⟩ rfl rfl rfl rfl rfl (by kernel_rfl) Tryd.func6 (by kernel_rfl)
    (of_decide_eq_true (by kernel_rfl)) (by unfold Func.isWrapper; first | (rw [if_pos (by decide +kernel)]; kernel_rfl) | (rw [if_neg (by decide +kernel)]; exact ⟨rfl, rfl⟩))
    (fun os started H enc _ => pageCoversLifted os started H enc)
theorem pageCovers_card : Rows.PageCoversCardSaid :=
  Claim7.holds_tied_plain_at .later [] [.data] true (true, "3e1017bbe245d220a28fd9e6071ba9ea44c5eed799b6b6bde6659dd7b8f8309f") false
    pageCovers_proved (fun _ h => by cases h) (by kernel_rfl) (fun _ h => by cases h) pageCovers_row_tie rfl ⟨rfl, rfl⟩ (by kernel_rfl) rfl
    (fun f fn hf hfn => by
      obtain rfl : f = 6 := Option.some.inj ((show Tryd.prog.funcNamed "rollbook/rollbooklaw27.PageCovers" = some 6 by kernel_rfl).symm.trans hf) |>.symm
      obtain rfl : fn = Tryd.f6 := (Option.some.inj (Tryd.func6.symm.trans hfn)).symm
      exact ⟨by kernel_rfl, fun j t ht => by
        rw [Tryd.params6] at ht
        have hm : t ∈ [22, 3, 3] := by simpa using Array.mem_of_getElem? ht
        have hall : ([22, 3, 3].all fun u => !Tryd.prog.wantsStandIn u) = true := by kernel_rfl
        exact (show Tryd.prog.wantsStandIn t = false by simpa using List.all_eq_true.1 hall t hm)⟩)
    (by kernel_rfl)
end Go.Proofs.YtocoinkhbjlbhaaDoor
end
