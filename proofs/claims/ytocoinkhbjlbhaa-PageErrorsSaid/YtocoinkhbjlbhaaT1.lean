/-
  What the functions of layers 3 and 27 do, for the calculus with typed frames.
-/
import Derived.Test.YtocoinkhbjlbhaaKit10
import Derived.Test.YtocoinkhbjlbhaaS14
import Derived.Test.YtocoinkhbjlbhaaP27e
namespace Go.Proofs.Ytocoinkhbjlbhaa
open Go Go.RowKit

theorem aro_rng {n m : Int} (hm : 1 ≤ m) (h : I64 m) : Rng .i64 (aro n m) := by
  have := aro_bd n m hm
  unfold I64 at h
  exact rng64 (by omega)

theorem around03_f {n m : Int} (h : 1 ≤ m) : Fn Try.prog 23 [pI n, pI m] (pI (aro n m)) := ⟨ent23, fun M w vs _ hf => by
  match vs, hf with
  | [u, v], ⟨⟨h1, h2⟩, ⟨h3, h4⟩, _⟩ =>
    subst h1 h3
    exact (around03 n m w (h2.1 rfl) h).mono fun u w' ⟨e, e2⟩ => ⟨⟨e, aro_rng h (h4.1 rfl)⟩, e2 ▸ Below.refl _ _⟩⟩
theorem height_f {n : Int} : Fn Try.prog 19 [pI n] (pI (4 + aro n 97)) := ⟨ent19, fun M w vs _ hf => by
  match vs, hf with
  | [u], ⟨⟨h1, h2⟩, _⟩ =>
    subst h1
    have := aro_bd n 97 (by omega)
    exact (height_c n w (h2.1 rfl)).mono fun u w' ⟨e, e2⟩ => ⟨⟨e, rng64 (by omega)⟩, e2 ▸ Below.refl _ _⟩⟩
theorem lives27_f : Fn Try.prog 22 [] (pB true) := ⟨ent22, fun M w vs hm hf => by
  match vs, hf with
  | [], _ => exact lives_c M w hm⟩
def pBg (l : List Int) : Pub := ⟨fun M w v => SlBg M w v l, fun hx h => h.mono hx⟩
/-- A body and notes made from numbers. -/
theorem lines_f {l : List Int} : Fn Try.prog 17 [pBg l] (pEx fun body => pEx fun notes => pAnd (OKB body notes) (pT2 (pSl eLine body) (pSl (eSl eLine) notes))) := ⟨ent17, fun M w vs hm hf => by
  match vs, hf with
  | [u], ⟨h1, _⟩ =>
    exact (linesG M u l w hm h1).mono fun u w' ⟨hb, vb, vn, body, notes, e, h1, h2, h3⟩ => ⟨⟨body, notes, h3, vb, vn, e, h1, h2⟩, hb⟩⟩
theorem set_f {body : List Line} {notes : List (List Line)} {h : Int} (hsz : body.length ≤ 1000000 ∧ sumR notes body ≤ 1000000) (hc : chkM body notes h = 0) :
    Fn Try.prog 18 [pSl eLine body, pSl (eSl eLine) notes, pI h] (pT2 (pSl ePg (setAll h body notes)) (pI 0)) := ⟨ent18, fun M w vs hm hf => by
  match vs, hf with
  | [u, v, x], ⟨h1, h2, ⟨h3, h4⟩, _⟩ =>
    subst h3
    exact (set_val M u v body notes h 0 _ w hm h1 h2 (h4.1 rfl) hsz hc (by rw [if_pos rfl])).mono fun r w' ⟨hb, vp, e, hp⟩ => ⟨⟨vp, _, e, hp, rfl, rng64 (by omega)⟩, hb⟩⟩
theorem samePages_f {ps qs : List Pg} (h : ps = qs) : Fn Try.prog 21 [pSl ePg ps, pSl ePg qs] (pB true) := ⟨ent21, fun M w vs hm hf => by
  subst h
  match vs, hf with
  | [u, v], ⟨h1, h2, _⟩ => exact samePages_c M u v ps w hm h1 h2⟩

end Go.Proofs.Ytocoinkhbjlbhaa
