/-
  Merged by prune.py from the texts S17 D22 D23 RD PTDone.
-/
import Derived.Calls
import Derived.Orders
import Derived.Below
import Derived.KernelRfl
import Derived.WalkKit
import Derived.Laws.AppendOwn
import Derived.Laws.Rows
import Derived.Deep.Slices
import Derived.Laws.OwnMore
import Derived.Laws.MakeOwn
import Derived.Laws.CopyRow
import Derived.Still
import Derived.Lib.SliceRun
import Derived.Test.YtocoinkhbjlbhaaDoorChecked
import Derived.Lib.AppendZeros
import Derived.Scope
import Derived.SizedLaws
import Derived.Test.YtocoinkhbjlbhaaDoorRows
import Derived.Test.YtocoinkhbjlbhaaDoorCards
import Derived.Test.YtocoinkhbjlbhaaDoorTie
import Derived.Lib.LaidTab
import Derived.LaidMore
import Derived.SevenTiedAt
import Derived.ProofKit
import Derived.OpenShut
import Derived.ChangeOld
import Derived.Test.YtocoinkhbjlbhaaDoorPTx5
section
namespace Go.Proofs.YtocoinkhbjlbhaaDoor
open Go Go.RowKit
section
variable {P : Program} {N : Nat} {G : TF} {d : Option Tmp} {ty : TypeId} {pos : String} {aft : Array Edge} {g : Option (Nat × Bool)}
theorem t_lenV {α : Type} {E : Enc α} {x : Operand} {v : Value} {l : List α} {tag : Nat} {t e e' : TypeId} (key : Nat) (hx : topP G x = some (pv v) := by rfl) (hg : tlook G key = some (.gv v E l tag e') := by rfl) (ht : USl P t e := by infer_instance) :
    TOp P N ⟨d, .call ⟨.builtin .len, #[x], #[t]⟩, ty, pos, aft, g⟩ G [] (.pu (pI l.length)) := .pure [x] (by simp [Op.operands, Call.operands]) fun hf => by
  obtain ⟨_, h0, rfl⟩ := hf.op hx (by simp)
  obtain ⟨h1, _⟩ := hf.out key _ hg (.inl rfl)
  have hl := h1.le
  exact op_len ht.out h0 h1 ⟨rfl, rfl, rng64 (by omega)⟩
theorem t_bl0 {t : TypeId} {plc : List (Nat × Nat)} {z : List Value} (hS : SB P t plc z) : TOp P N ⟨d, .build t #[], ty, pos, aft, g⟩ G [] (.pu (pv (.agg z.toArray))) := .pure [] (by simp) fun _ =>
  op_build (parts := []) (vs := []) (pl := []) hS rfl trivial ⟨rfl, rfl⟩
theorem t_stAgg {x y : Operand} {b tag : Nat} {cs c z : List Value} {t e : TypeId} {sz by' : Nat} (key : Nat) (hT : TD P t sz by' true z) (hx : topP G x = some (pCe b 0) := by rfl) (hg : tlook G key = some (.bx b tag cs e) := by rfl) (hy : topP G y = some (pv (.agg c.toArray)) := by rfl)
    (h1 : c.all Value.oneCell' = true := by rfl) (hs : c.length = sz := by rfl) (hl : Nat.ble c.length cs.length = true := by rfl) :
    TOp P N ⟨d, .store t x y, ty, pos, aft, g⟩ G [tag] (.bx b tag (splice cs 0 c) e) := ⟨[x, y], by simp [Op.operands], fun {M0 w0 M w fr} hr hf => by
  obtain ⟨_, k0, rfl⟩ := hf.op hx (by simp)
  obtain ⟨_, k1, rfl⟩ := hf.op hy (by simp)
  obtain ⟨hB, hbx⟩ := hf.out key _ hg (.inl rfl)
  exact op_store hT k0 k1 (c := c) (by simp [Value.cells]) (fun u hu => List.all_eq_true.1 h1 u hu) hs hr hB hbx (by have := Nat.le_of_ble_eq_true hl; omega) fun w' hb' hst => ⟨M, StW.st hst, hB, hb'⟩⟩
theorem t_loadPg {x : Operand} {b tag tb tn : Nat} {vb vn : Value} {body notes : List Line} {e eb en : TypeId} (key kb kn : Nat) (hx : topP G x = some (pCe b 0) := by rfl) (hg : tlook G key = some (.bx b tag [.int .i64 0, .int .i64 0, .int .i64 0, .int .i64 0, vb, vn] e) := by rfl)
    (hb : tlook G kb = some (.gv vb eLine body tb eb) := by rfl) (hn : tlook G kn = some (.gv vn eLine notes tn en) := by rfl) :
    TOp Tryd.prog N ⟨d, .load 57 x, ty, pos, aft, g⟩ G [] (.pu (pV ePg ⟨0, 0, 0, 0, body, notes⟩)) := .pure [x] (by simp [Op.operands]) fun {B M w fr} hf => by
  obtain ⟨_, k0, rfl⟩ := hf.op hx (by simp)
  obtain ⟨_, hbx⟩ := hf.out key _ hg (.inl rfl)
  obtain ⟨h1, _⟩ := hf.out kb _ hb (.inl rfl)
  obtain ⟨h2, _⟩ := hf.out kn _ hn (.inl rfl)
  exact op_loadn tdP k0 hbx (Nat.le_refl _) ⟨rfl, ePg_V.2 ⟨vb, vn, rfl, by unfold I64; simp, h1, h2⟩⟩
end
instance : FOc Tryd.prog 57 3 4 := ⟨fdP3⟩
instance : FOc Tryd.prog 57 4 5 := ⟨fdP4⟩
instance : T1c Tryd.prog 33 := ⟨24, _, tdSL⟩
theorem has_gvE {G : TF} {t : Nat} {α : Type} {E : Enc α} {v : Value} {l l' : List α} {tag : Nat} {ty : TypeId} (h : tlook G t = some (.gv v E l tag ty)) (e : l = l') : Has G t (.gv v E l' tag ty) := e ▸ has_rfl h
theorem c_meet {P : Program} {f : FuncId} {N : Nat} {M0 : Mut} {w0 : World} {R : Value → World → Prop} {G : TF} {todo todo2 : List Item} (F : TF) (h : (∀ {G}, SubT F G → Rt P f N M0 w0 todo2 G R) → Rt P f N M0 w0 todo G R) (h2 : Rt P f N M0 w0 todo2 F R) : Rt P f N M0 w0 todo G R :=
  h fun hs => h2.sub hs
theorem r_meet {P : Program} {f : FuncId} {N : Nat} {M0 : Mut} {w0 : World} {R R2 : Value → World → Prop} {G : TF} {todo k : List Item} {ops : Array Oper} {l : List Oper} (F : TF) (h : (∀ {G}, SubT F G → RLt P f N M0 w0 ops k R2 l G) → Rt P f N M0 w0 todo G R) (h2 : RLt P f N M0 w0 ops k R2 l F) : Rt P f N M0 w0 todo G R :=
  h fun hs => ⟨fun hr hf => h2.out hr (hs.fit hf)⟩
theorem r_meetP {P : Program} {f : FuncId} {N : Nat} {M0 : Mut} {w0 : World} {R R2 : Value → World → Prop} {G : TF} {todo k : List Item} {ops : Array Oper} {l : List Oper} (φ : Prop) (F : TF) (h : (φ → ∀ {G}, SubT F G → RLt P f N M0 w0 ops k R2 l G) → Rt P f N M0 w0 todo G R) (h2 : φ → RLt P f N M0 w0 ops k R2 l F) : Rt P f N M0 w0 todo G R :=
  h fun p _ hs => ⟨fun hr hf => (h2 p).out hr (hs.fit hf)⟩
theorem grow_step (h n t q : Int) (h0 : 0 ≤ t) (h1 : t < q) (h2 : n + t + 2 ≤ h) : growM h n (t + 1) q = growM h n t q := by
  unfold growM
  rw [if_pos (show 0 < q - t by omega)]
  split <;> omega
theorem chk_rng (body : List Line) (notes : List (List Line)) (h : Int) : Rng .i64 (chkM body notes h) := by
  refine rng64 ?_
  unfold chkM
  split
  · omega
  · split
    · omega
    · split
      · omega
      · split <;> omega
def planAt (k m tag : Nat) : Plan := { tag := List.replicate k none ++ [some tag], pre := List.replicate (k + 1) [] ++ List.replicate (m - k - 1) [tag], oth := List.replicate k [tag] ++ [[]] ++ List.replicate (m - k - 1) [tag] }
set_option maxHeartbeats 4000000 in
theorem setR_f {body : List Line} {notes : List (List Line)} {h : Int} (hsz : chkM body notes h = 0 → body.length ≤ 1000000 ∧ sumR notes body ≤ 1000000) :
    Fn Tryd.prog 41 [pSl eLine body, pSl (eSl eLine) notes, pI h] (pT2 (pSl ePg (if chkM body notes h = 0 then setAll h body notes else [])) (pI (chkM body notes h))) := by
  refine fn_of ent41 Tryd.func41 rfl Tryd.ntmps41 rfl fun M0 w0 => ?_
  (repeat (first | refine c_seq ?_ | refine c_reg ?_ | refine c_rnil ?_ | refine c_op (by first | exact t_call (h := wrong_f) | exact t_move | exact t_assign | exact t_neq | fail) ?_ | fail))
  refine c_if (fun hc => ?_) fun hc => ?_
  · (repeat (first | refine c_seq ?_ | refine c_reg ?_ | refine c_rnil ?_ | refine c_op (by first | exact t_move | exact t_assign | fail) ?_ | fail))
    refine c_ret2 Tryd.func41 rfl ?_
    intro M w v x h1 h2
    rw [if_neg hc]
    exact ⟨v, x, rfl, by rw [show v = _ from h1]; exact SlOf.nil _ _ _, h2⟩
  have hc : chkM body notes h = 0 := Classical.byContradiction hc
  obtain ⟨hz1, hz2⟩ := hsz hc
  rw [if_pos hc, hc]
  obtain ⟨hh1, hh2, hh3, hord⟩ := chk_ok hc
  have hrefs := ordM_range _ _ _ _ hord (by omega)
  have hall := set_order h (by omega) notes (body.length + sumR notes body + 1) body [] (by simp)
  replace hall := hall.2.2.1
  change (setAll h body notes).length ≤ _ at hall
  simp only [List.length_nil, Nat.add_zero] at hall
  (repeat (first | refine c_seq ?_ | refine c_reg ?_ | refine c_rnil ?_ | refine c_block ?_ | refine c_skip ?_ | refine c_op (by first | exact t_assign | fail) ?_ | fail))
  refine c_loop (fun x : Nat × List Line × List Pg × Nat => [(0, .pu (pSl eLine body)), (1, .pu (pSl (eSl eLine) notes)), (2, .pu (pI h)), (9, .gr ePg x.2.2.1 1 57), (10, .gr eLine x.2.1 2 42), (11, .pu (pI x.1))])
    (fun x => x.1 ≤ body.length ∧ x.2.2.1 ++ setM h notes x.2.2.2 (body.drop x.1) x.2.1 = setAll h body notes ∧ (body.drop x.1).length + x.2.1.length + sumR notes (body.drop x.1) < x.2.2.2 ∧ x.2.1.length + sumR notes (body.drop x.1) ≤ sumR notes body)
    (fun x => x.2.2.2) (0, [], [], body.length + sumR notes body + 1) ⟨by omega, rfl, by simp, by simp⟩ (by repeat (first | exact trivial | refine ⟨has_rfl rfl, ?_⟩ | refine ⟨has_nil rfl, ?_⟩ | fail)) ?_
  rintro ⟨at0, Q0, ps, f⟩ ⟨hat, hset, hf, hq⟩ ih
  dsimp only at hat hset hf hq ih ⊢
  have hpl := congrArg List.length hset
  rw [List.length_append] at hpl
  by_cases hemp : at0 = body.length ∧ Q0.length = 0
  · obtain ⟨h1, h2⟩ := hemp
    have e1 : body.drop at0 = [] := List.drop_of_length_le (by omega)
    have e2 : Q0 = [] := List.eq_nil_of_length_eq_zero h2
    rw [e1, e2, set_nil, List.append_nil] at hset
    (repeat (first | refine c_seq ?_ | refine c_reg ?_ | refine c_rnil ?_ | refine c_exit ?_ | refine c_false ?_ | refine c_yes ?_ | refine c_op (by first | exact t_moveG | exact t_move | exact t_assignG | exact t_assign | exact t_pickF | exact t_lssF | exact t_gtrF | exact t_len | fail) ?_ | fail))
    refine c_ret2 Tryd.func41 rfl ?_
    intro M w v x h1 h2
    rw [hset] at h1
    exact ⟨v, x, rfl, h1, h2⟩
  apply r_meet [(0, .pu (pSl eLine body)), (1, .pu (pSl (eSl eLine) notes)), (2, .pu (pI h)), (9, .gr ePg ps 1 57), (10, .gr eLine Q0 2 42), (11, .pu (pI at0))]
  · intro meet
    rcases (by omega : at0 < body.length ∨ (at0 = body.length ∧ 0 < Q0.length)) with h1 | ⟨h1, h2⟩
    · (repeat (first | refine c_seq ?_ | refine c_reg ?_ | refine c_rnil ?_ | refine c_block ?_ | refine c_skip ?_ | refine c_true ?_ | refine c_no ?_ | refine c_op (by first | exact t_move | exact t_pickT | exact t_lssT | exact t_len | fail) ?_ | fail))
      exact meet (by repeat (first | exact trivial | refine ⟨has_rfl rfl, ?_⟩ | fail))
    · (repeat (first | refine c_seq ?_ | refine c_reg ?_ | refine c_rnil ?_ | refine c_block ?_ | refine c_skip ?_ | refine c_true ?_ | refine c_yes ?_ | refine c_op (by first | exact t_moveG | exact t_move | exact t_pickF | exact t_lssF | exact t_gtrT | exact t_len | fail) ?_ | fail))
      exact meet (by repeat (first | exact trivial | refine ⟨has_rfl rfl, ?_⟩ | fail))
  obtain ⟨f, rfl⟩ : ∃ g, f = g + 1 := ⟨f - 1, by omega⟩
  have hbl : (body.drop at0).length = body.length - at0 := List.length_drop
  refine c_op (t_bl0 sbP) ?_
  refine c_allocB 5 100005 tdP fun b => ?_
  refine c_st 100005 (t_stAgg 100005 tdP) ?_
  (repeat (first | refine c_seq ?_ | refine c_rnil ?_ | refine c_block ?_ | fail))
  refine c_nilV eLine 6 42 100006 (c_nilV eLine 7 42 100007 ?_)
  refine c_loop (fun x : Nat × Value => [(0, .pu (pSl eLine body)), (1, .pu (pSl (eSl eLine) notes)), (2, .pu (pI h)), (9, .gr ePg ps 1 57), (10, .gr eLine (Q0.drop x.1) 2 42), (11, .pu (pI at0)), (12, .pu (pCe b 0)), (100005, .bx b 5 [.int .i64 0, .int .i64 0, .int .i64 0, .int .i64 0, .slice none 0 0, x.2] 57), (100006, .gv (.slice none 0 0) eLine [] 6 42), (100007, .gv x.2 eLine (Q0.take x.1) 7 42)])
    (fun x => x.1 ≤ Q0.length ∧ (x.1 : Int) ≤ h - 1) (fun x => Q0.length - x.1) (0, .slice none 0 0) ⟨by omega, by dsimp only; omega⟩ (by repeat (first | exact trivial | refine ⟨has_rfl rfl, ?_⟩ | fail)) ?_
  rintro ⟨s, vn⟩ ⟨hs1, hs2⟩ ihs
  dsimp only at hs1 hs2 ihs ⊢
  have hdl : (Q0.drop s).length = Q0.length - s := List.length_drop
  have htl : (Q0.take s).length = s := by rw [List.length_take]; omega
  by_cases hgo : s < Q0.length ∧ (s : Int) < h - 1
  · obtain ⟨hg1, hg2⟩ := hgo
    (repeat (first | refine c_seq ?_ | refine c_reg ?_ | refine c_rnil ?_ | refine c_block ?_ | refine c_skip ?_ | refine c_true ?_ | refine c_yes ?_ | refine c_op (by first | exact (t_faB) | exact (t_loadB 100005) | exact (t_lenV 100007) | exact t_moveG | exact t_move | exact t_pickT | exact t_sub | exact t_lssT | exact t_gtrT | exact t_len | fail) ?_ | fail))
    refine c_draw (planAt 7 9 7) 9 1 [] [7] mixed (by kernel_rfl) rfl rfl ?_
    (repeat (first | refine d_op (by first | exact t_call (h := copy_f) | exact (t_faB) | exact (t_loadB 100005) | exact (t_appV 100007) | exact t_moveG | exact t_idx | exact t_load | exact t_bs | fail) ?_ | fail))
    refine d_nil ?_
    refine q_name 49 100007 fun vn' => ?_
    refine q_st 9 100005 (by kernel_rfl) rfl (t_stV 100005 100007) ?_
    refine q_nil ?_ (by kernel_rfl)
    (repeat (first | refine c_reg ?_ | refine c_rnil ?_ | refine c_inBlock ?_ | refine c_op (by first | exact t_moveG | exact t_assignG | exact t_sliceG | fail) ?_ | fail))
    refine (ihs (s + 1, vn') ⟨by dsimp only; omega, by dsimp only; omega⟩ (by dsimp only; omega)).sub ?_
    (repeat' (first | exact trivial | refine ⟨?_, ?_⟩ | fail)) <;> (try first | exact has_rfl rfl | exact has_nil rfl | exact has_nilS rfl | exact has_gr rfl | exact has_nilGo rfl | exact has_int rfl (by first | omega | fail) | fail)
    · exact has_grE rfl (by rw [List.drop_drop]; rfl)
    · exact has_gvE rfl (by rw [List.take_succ_eq_append_getElem hg1]; simp)
  have hs0 : (s : Int) = min (Q0.length : Int) (h - 1) := by omega
  apply c_meet [(0, .pu (pSl eLine body)), (1, .pu (pSl (eSl eLine) notes)), (2, .pu (pI h)), (9, .gr ePg ps 1 57), (10, .gr eLine (Q0.drop s) 2 42), (11, .pu (pI at0)), (12, .pu (pCe b 0)), (100005, .bx b 5 [.int .i64 0, .int .i64 0, .int .i64 0, .int .i64 0, .slice none 0 0, vn] 57), (100006, .gv (.slice none 0 0) eLine [] 6 42), (100007, .gv vn eLine (Q0.take s) 7 42)]
  · intro meet
    by_cases hz : s < Q0.length
    · have hz2 : h - 1 ≤ (s : Int) := by omega
      (repeat (first | refine c_seq ?_ | refine c_reg ?_ | refine c_rnil ?_ | refine c_block ?_ | refine c_exit ?_ | refine c_false ?_ | refine c_yes ?_ | refine c_op (by first | exact (t_faB) | exact (t_loadB 100005) | exact (t_lenV 100007) | exact t_moveG | exact t_move | exact t_pickT | exact t_sub | exact t_lssF | exact t_gtrT | exact t_len | fail) ?_ | fail))
      exact meet (by repeat (first | exact trivial | refine ⟨has_rfl rfl, ?_⟩ | fail))
    · (repeat (first | refine c_seq ?_ | refine c_reg ?_ | refine c_rnil ?_ | refine c_block ?_ | refine c_exit ?_ | refine c_false ?_ | refine c_no ?_ | refine c_op (by first | exact t_moveG | exact t_move | exact t_pickF | exact t_gtrF | exact t_len | fail) ?_ | fail))
      exact meet (by repeat (first | exact trivial | refine ⟨has_rfl rfl, ?_⟩ | fail))
  refine c_loop (fun x : Nat × List Line × Nat × Value × Value => [(0, .pu (pSl eLine body)), (1, .pu (pSl (eSl eLine) notes)), (2, .pu (pI h)), (9, .gr ePg ps 1 57), (10, .gr eLine (x.2.1.drop x.2.2.1) 2 42), (11, .pu (pI (at0 + x.1 : Nat))), (12, .pu (pCe b 0)), (100005, .bx b 5 [.int .i64 0, .int .i64 0, .int .i64 0, .int .i64 0, x.2.2.2.1, x.2.2.2.2] 57), (100006, .gv x.2.2.2.1 eLine ((body.drop at0).take x.1) 6 42), (100007, .gv x.2.2.2.2 eLine (x.2.1.take x.2.2.1) 7 42)])
    (fun x => at0 + x.1 ≤ body.length ∧ x.2.2.1 ≤ x.2.1.length ∧ (x.1 : Int) + x.2.2.1 + min (x.2.2.1 : Int) 1 ≤ h ∧ (x.2.2.1 = 0 → x.2.1.length = 0) ∧ x.2.1.length + sumR notes (body.drop (at0 + x.1)) = Q0.length + sumR notes (body.drop at0) ∧
      fillM h notes (body.drop (at0 + x.1)) x.1 x.2.1 x.2.2.1 = fillM h notes (body.drop at0) 0 Q0 (min (Q0.length : Int) (h - 1)))
    (fun x => body.length - (at0 + x.1)) (0, Q0, s, .slice none 0 0, vn) ⟨by dsimp only; omega, hs1, by dsimp only; omega, by dsimp only; omega, rfl, by dsimp only; rw [hs0]; rfl⟩ (by repeat (first | exact trivial | refine ⟨has_rfl rfl, ?_⟩ | fail)) ?_
  rintro ⟨n, QQ, s, vb, vn⟩ ⟨hn1, hs1, hnh, hz, hsum, hfill⟩ ihB
  dsimp only at hn1 hs1 hnh hz hsum hfill ihB ⊢
  have hdl : (QQ.drop s).length = QQ.length - s := List.length_drop
  have htl : (QQ.take s).length = s := by rw [List.length_take]; omega
  have hbl2 : (body.drop (at0 + n)).length = body.length - (at0 + n) := List.length_drop
  have htb : ((body.drop at0).take n).length = n := by rw [List.length_take]; omega
  have hus : usedM ⟨0, 0, 0, 0, (body.drop at0).take n, QQ.take s⟩ = n + s + min (s : Int) 1 := by unfold usedM; simp only [htb, htl]
  apply r_meetP (fillM h notes (body.drop at0) 0 Q0 (min (Q0.length : Int) (h - 1)) = ((n : Int), QQ, (s : Int)) ∧ 0 < n + s) [(0, .pu (pSl eLine body)), (1, .pu (pSl (eSl eLine) notes)), (2, .pu (pI h)), (9, .gr ePg ps 1 57), (10, .gr eLine (QQ.drop s) 2 42), (11, .pu (pI (at0 + n : Nat))), (12, .pu (pCe b 0)), (100005, .bx b 5 [.int .i64 0, .int .i64 0, .int .i64 0, .int .i64 0, vb, vn] 57), (100006, .gv vb eLine ((body.drop at0).take n) 6 42), (100007, .gv vn eLine (QQ.take s) 7 42), (129, .gr ePg ps 1 57)]
  · intro meet
    by_cases hend : at0 + n = body.length
    · have e1 : body.drop (at0 + n) = [] := List.drop_of_length_le (by omega)
      rw [e1, fillM] at hfill
      have hpos : 0 < n + s := by
        rcases Nat.eq_zero_or_pos (n + s) with h0 | h0
        · have := hz (by omega)
          rw [e1] at hsum
          have : sumR notes [] = 0 := rfl
          omega
        · exact h0
      (repeat (first | refine c_seq ?_ | fail))
      refine c_draw0 mixed (by kernel_rfl) ?_
      (repeat (first | refine d_op (by first | exact t_move | exact t_pickF | exact t_lssF | exact t_len | fail) ?_ | refine d_no ?_ | fail))
      refine d_nil (q_nil ?_ (by kernel_rfl))
      (repeat (first | refine c_reg ?_ | refine c_exit ?_ | refine c_false ?_ | refine c_op (by first | exact t_moveG | fail) ?_ | fail))
      exact meet ⟨hfill.symm, hpos⟩ (by repeat (first | exact trivial | refine ⟨has_rfl rfl, ?_⟩ | fail))
    have hlt : at0 + n < body.length := by omega
    have hcons : body.drop (at0 + n) = body[at0 + n] :: body.drop (at0 + n + 1) := List.drop_eq_getElem_cons hlt
    rw [hcons, fillM] at hfill
    have hff : fitsR ⟨0, 0, 0, 0, (body.drop at0).take n, QQ.take s⟩ body[at0 + n] ((QQ.drop s).length : Int) h = fitsB h body[at0 + n] n s QQ.length := by
      unfold fitsR
      simp only [htb, htl, hdl]
      rw [show (s : Int) + ((QQ.length - s : Nat) : Int) = QQ.length by omega]
    have h0q : (0 : Int) ≤ ((QQ.drop s).length : Int) := Int.natCast_nonneg _
    have husm : usedM ⟨0, 0, 0, 0, (body.drop at0).take n, QQ.take s⟩ ≤ 1000000 := by omega
    (repeat (first | refine c_seq ?_ | fail))
    refine c_draw0 mixed (by kernel_rfl) ?_
    (repeat (first | refine d_op (by first | exact t_move | exact t_pickT | exact t_lssT | exact t_len | fail) ?_ | refine d_yes (by first | exact (t_loadPg 100005 100006 100007) | exact t_call (h := (fits_f h0q ⟨hh1, hh2⟩ husm)) | exact t_moveG | exact t_move | exact t_len | exact t_idxN | exact t_load | fail) ?_ | fail))
    refine d_nil (q_nil ?_ (by kernel_rfl))
    refine c_ifb (fun hfit => ?_) fun hfit => ?_
    case refine_2 =>
      rw [hff] at hfit
      rw [if_neg (by rw [hfit]; exact Bool.false_ne_true)] at hfill
      have hpos : 0 < n + s := by
        rcases Nat.eq_zero_or_pos (n + s) with h0 | h0
        · have hq0 := hz (by omega)
          have hn0 : n = 0 := by omega
          have hs00 : s = 0 := by omega
          subst hn0 hs00
          rw [hq0] at hfit
          have := fits_first body[at0 + 0] hh1
          rw [show ((0 : Nat) : Int) = 0 from rfl] at hfit
          rw [this] at hfit
          cases hfit
        · exact h0
      (repeat (first | refine c_reg ?_ | refine c_exit ?_ | refine c_op (by first | exact t_moveG | fail) ?_ | fail))
      exact meet ⟨hfill.symm, hpos⟩ (by repeat (first | exact trivial | refine ⟨has_rfl rfl, ?_⟩ | fail))
    rw [hff] at hfit
    rw [if_pos hfit] at hfill
    obtain ⟨f1, f2⟩ := fits_bd hfit (by omega) (by omega)
    have hsd := sumR_drop notes body (at0 + n) hlt
    have hin : ∀ (k : Nat) (hk : k < body[at0 + n].notes.length), 0 ≤ body[at0 + n].notes[k] ∧ body[at0 + n].notes[k] < notes.length := fun k hk => hrefs _ (mem_refs hlt (List.getElem_mem hk))
    (repeat (first | refine c_seq ?_ | refine c_block ?_ | refine c_skip ?_ | fail))
    refine c_draw (planAt 8 10 6) 10 1 [] [6] mixed (by kernel_rfl) rfl rfl ?_
    (repeat (first | refine d_op (by first | exact t_call (h := copy_f) | exact (t_faB) | exact (t_loadB 100005) | exact (t_appV 100006) | exact t_move | exact t_idxN | exact t_load | exact t_bs | fail) ?_ | fail))
    refine d_nil ?_
    refine q_name 76 100006 fun vb' => ?_
    refine q_st 10 100005 (by kernel_rfl) rfl (t_stV 100005 100006) ?_
    refine q_nil ?_ (by kernel_rfl)
    (repeat (first | refine c_seq ?_ | refine c_reg ?_ | refine c_rnil ?_ | refine c_block ?_ | refine c_op (by first | exact t_assign | fail) ?_ | fail))
    have htk : (body.drop at0).take (n + 1) = (body.drop at0).take n ++ [body[at0 + n]] := by
      rw [List.take_succ_eq_append_getElem (by omega), List.getElem_drop]
    refine c_have 0 (fun h => ok_line h) fun hl2 => ?_
    have hl2 := hl2 (at0 + n) hlt
    refine c_loop (fun k : Nat => [(0, .pu (pSl eLine body)), (1, .pu (pSl (eSl eLine) notes)), (2, .pu (pI h)), (9, .gr ePg ps 1 57), (10, .gr eLine (QQ.drop s ++ (body[at0 + n].notes.take k).flatMap (noteAt notes)) 2 42), (11, .pu (pI (at0 + n : Nat))), (12, .pu (pCe b 0)), (100005, .bx b 5 [.int .i64 0, .int .i64 0, .int .i64 0, .int .i64 0, vb', vn] 57), (100006, .gv vb' eLine ((body.drop at0).take (n + 1)) 6 42), (100007, .gv vn eLine (QQ.take s) 7 42), (13, .pu (pI k))])
      (fun k => k ≤ body[at0 + n].notes.length) (fun k => body[at0 + n].notes.length - k) 0 (by omega) ?_ ?_
    · (repeat' (first | exact trivial | refine ⟨?_, ?_⟩ | fail)) <;> (try first | exact has_rfl rfl | exact has_nil rfl | exact has_nilS rfl | exact has_gr rfl | exact has_nilGo rfl | exact has_int rfl (by first | omega | fail) | fail)
      · exact has_grE rfl (by simp)
      · exact has_gvE rfl htk.symm
    · intro k hk ihk
      (repeat (first | refine c_seq ?_ | refine c_reg ?_ | refine c_rnil ?_ | refine c_op (by first | exact t_move | exact t_lss | exact t_len | exact t_idxN | exact t_load | exact t_fa | fail) ?_ | fail))
      refine c_if (fun hlt2 => ?_) fun hge2 => ?_
      · have hlt2' : k < body[at0 + n].notes.length := by omega
        obtain ⟨hr0, hr1⟩ := hin k hlt2'
        have hA := flat_take (noteAt notes) body[at0 + n].notes k hlt2'
        have hA1 := congrArg List.length hA
        rw [List.length_append, noteAt_get (by omega)] at hA1
        have hA2 := flat_take_le (noteAt notes) body[at0 + n].notes (k + 1)
        have hlq : (QQ.drop s ++ (body[at0 + n].notes.take k).flatMap (noteAt notes)).length = QQ.length - s + ((body[at0 + n].notes.take k).flatMap (noteAt notes)).length := by rw [List.length_append, hdl]
        (repeat (first | refine c_seq ?_ | refine c_reg ?_ | refine c_rnil ?_ | refine c_block ?_ | refine c_inBlock ?_ | refine c_skip ?_ | refine c_op (by first | exact t_moveG | exact t_move | exact t_assignG | exact t_assign | exact t_add | exact t_idxN | exact t_idx | exact t_load | exact t_fa | fail) ?_ | refine c_opW t_app ?_ | fail))
        refine (ihk (k + 1) (by omega) (by omega)).sub ?_
        (repeat' (first | exact trivial | refine ⟨?_, ?_⟩ | fail)) <;> (try first | exact has_rfl rfl | exact has_nil rfl | exact has_nilS rfl | exact has_gr rfl | exact has_nilGo rfl | exact has_int rfl (by first | omega | fail) | fail)
        exact has_grE rfl (by rw [hA, noteAt_get (by omega), List.append_assoc])
      have hke : k = body[at0 + n].notes.length := by omega
      subst hke
      rw [List.take_length]
      have hQd : QQ.drop s ++ body[at0 + n].notes.flatMap (noteAt notes) = (QQ ++ body[at0 + n].notes.flatMap (noteAt notes)).drop s := (List.drop_append_of_le_length hs1).symm
      have hQt : QQ.take s = (QQ ++ body[at0 + n].notes.flatMap (noteAt notes)).take s := (List.take_append_of_le_length hs1).symm
      have hQl : (QQ ++ body[at0 + n].notes.flatMap (noteAt notes)).length = QQ.length + (body[at0 + n].notes.flatMap (noteAt notes)).length := List.length_append
      have hzn : body[at0 + n].notes = [] → (body[at0 + n].notes.flatMap (noteAt notes)).length = 0 := fun hx => by rw [hx]; rfl
      rw [hQd, hQt]
      generalize (body[at0 + n].notes.flatMap (noteAt notes)).length = fl at hQl hzn hsd
      generalize QQ ++ body[at0 + n].notes.flatMap (noteAt notes) = QN at hfill hQl ⊢
      have htb2 : ((body.drop at0).take (n + 1)).length = n + 1 := by rw [List.length_take]; omega
      (repeat (first | refine c_seq ?_ | refine c_block ?_ | refine c_exit ?_ | fail))
      refine c_loop (fun x : Nat × Value => [(0, .pu (pSl eLine body)), (1, .pu (pSl (eSl eLine) notes)), (2, .pu (pI h)), (9, .gr ePg ps 1 57), (10, .gr eLine (QN.drop x.1) 2 42), (11, .pu (pI (at0 + n : Nat))), (12, .pu (pCe b 0)), (100005, .bx b 5 [.int .i64 0, .int .i64 0, .int .i64 0, .int .i64 0, vb', x.2] 57), (100006, .gv vb' eLine ((body.drop at0).take (n + 1)) 6 42), (100007, .gv x.2 eLine (QN.take x.1) 7 42)])
        (fun x => x.1 ≤ QN.length ∧ s ≤ x.1 ∧ (n + 1 : Int) + x.1 + min (x.1 : Int) 1 ≤ h ∧ growM h (n + 1) x.1 QN.length = growM h (n + 1) s QN.length) (fun x => QN.length - x.1) (s, vn) ⟨by dsimp only; omega, Nat.le_refl _, by dsimp only; omega, rfl⟩ (by repeat (first | exact trivial | refine ⟨has_rfl rfl, ?_⟩ | fail)) ?_
      rintro ⟨t, vn2⟩ ⟨ht1, ht2, ht3, hgr⟩ iht
      dsimp only at ht1 ht2 ht3 hgr iht ⊢
      have hdt : (QN.drop t).length = QN.length - t := List.length_drop
      have htt : (QN.take t).length = t := by rw [List.length_take]; omega
      have hu2 : usedM ⟨0, 0, 0, 0, (body.drop at0).take (n + 1), QN.take t⟩ = (n + 1 : Nat) + t + min (t : Int) 1 := by unfold usedM; simp only [htb2, htt]
      by_cases hgo : t < QN.length ∧ (n : Int) + t + 3 ≤ h
      · obtain ⟨hg1, hg2⟩ := hgo
        (repeat (first | refine c_seq ?_ | fail))
        refine c_draw0 mixed (by kernel_rfl) ?_
        (repeat (first | refine d_op (by first | exact t_moveG | exact t_move | exact t_pickT | exact t_gtrT | exact t_len | fail) ?_ | refine d_yes (by first | exact (t_faB) | exact (t_loadB 100005) | exact (t_loadPg 100005 100006 100007) | exact (t_lenV 100007) | exact t_call (h := used_f) | exact t_move | exact t_add | exact t_sub | exact t_min | exact t_leqT | fail) ?_ | fail))
        refine d_nil (q_nil ?_ (by kernel_rfl))
        (repeat (first | refine c_seq ?_ | refine c_block ?_ | refine c_skip ?_ | refine c_true ?_ | fail))
        refine c_draw (planAt 7 9 7) 9 1 [] [7] mixed (by kernel_rfl) rfl rfl ?_
        (repeat (first | refine d_op (by first | exact t_call (h := copy_f) | exact (t_faB) | exact (t_loadB 100005) | exact (t_appV 100007) | exact t_moveG | exact t_idx | exact t_load | exact t_bs | fail) ?_ | fail))
        refine d_nil ?_
        refine q_name 123 100007 fun vn' => ?_
        refine q_st 9 100005 (by kernel_rfl) rfl (t_stV 100005 100007) ?_
        refine q_nil ?_ (by kernel_rfl)
        (repeat (first | refine c_reg ?_ | refine c_rnil ?_ | refine c_inBlock ?_ | refine c_op (by first | exact t_moveG | exact t_assignG | exact t_sliceG | fail) ?_ | fail))
        refine (iht (t + 1, vn') ⟨by dsimp only; omega, by dsimp only; omega, by dsimp only; omega, by
          rw [← hgr]
          exact grow_step h (n + 1) t QN.length (by omega) (by omega) (by omega)⟩ (by dsimp only; omega)).sub ?_
        (repeat' (first | exact trivial | refine ⟨?_, ?_⟩ | fail)) <;> (try first | exact has_rfl rfl | exact has_nil rfl | exact has_nilS rfl | exact has_gr rfl | exact has_nilGo rfl | exact has_int rfl (by first | omega | fail) | fail)
        · exact has_grE rfl (by rw [List.drop_drop]; rfl)
        · exact has_gvE rfl (by rw [List.take_succ_eq_append_getElem hg1]; simp)
      · have hte : growM h (n + 1) t QN.length = t := by
          unfold growM
          split
          · rename_i hlt3
            rcases Nat.eq_zero_or_pos t with h0 | h0
            · have hs00 : s = 0 := by omega
              have hq0 := hz hs00
              have hfl : body[at0 + n].notes ≠ [] := fun hx => by have := hzn hx; omega
              have := f2.resolve_left hfl
              omega
            · omega
          · rfl
        have ht0 : t = 0 → QN.length = 0 := fun h0 => by
          have hs00 : s = 0 := by omega
          have hq0 := hz hs00
          rcases Nat.eq_zero_or_pos QN.length with hl | hl
          · exact hl
          · have hfl : body[at0 + n].notes ≠ [] := fun hx => by have := hzn hx; omega
            have := f2.resolve_left hfl
            omega
        rw [← hgr, hte] at hfill
        have hmeet : ∀ (_ : Unit), at0 + (n + 1) ≤ body.length ∧ t ≤ QN.length ∧ ((n + 1 : Nat) : Int) + t + min (t : Int) 1 ≤ h ∧ (t = 0 → QN.length = 0) ∧ QN.length + sumR notes (body.drop (at0 + (n + 1))) = Q0.length + sumR notes (body.drop at0) ∧ fillM h notes (body.drop (at0 + (n + 1))) ((n + 1 : Nat) : Int) QN t = fillM h notes (body.drop at0) 0 Q0 (min (Q0.length : Int) (h - 1)) :=
          fun _ => ⟨by omega, ht1, by omega, ht0, by rw [hQl, ← Nat.add_assoc at0]; omega, by rw [← Nat.add_assoc]; exact hfill⟩
        by_cases hl0 : t < QN.length
        · have hg3 : h < (n : Int) + t + 3 := by omega
          (repeat (first | refine c_seq ?_ | fail))
          refine c_draw0 mixed (by kernel_rfl) ?_
          (repeat (first | refine d_op (by first | exact t_moveG | exact t_move | exact t_pickT | exact t_gtrT | exact t_len | fail) ?_ | refine d_yes (by first | exact (t_faB) | exact (t_loadB 100005) | exact (t_loadPg 100005 100006 100007) | exact (t_lenV 100007) | exact t_call (h := used_f) | exact t_move | exact t_add | exact t_sub | exact t_min | exact t_leqF | fail) ?_ | fail))
          refine d_nil (q_nil ?_ (by kernel_rfl))
          (repeat (first | refine c_reg ?_ | refine c_rnil ?_ | refine c_inBlock ?_ | refine c_exit ?_ | refine c_false ?_ | refine c_op (by first | exact t_move | exact t_assign | exact t_add | fail) ?_ | fail))
          exact (ihB (n + 1, QN, t, vb', vn2) (hmeet ()) (by dsimp only; omega)).sub (by repeat (first | exact trivial | refine ⟨has_rfl rfl, ?_⟩ | fail))
        · (repeat (first | refine c_seq ?_ | fail))
          refine c_draw0 mixed (by kernel_rfl) ?_
          (repeat (first | refine d_op (by first | exact t_moveG | exact t_move | exact t_pickF | exact t_gtrF | exact t_len | fail) ?_ | refine d_no ?_ | fail))
          refine d_nil (q_nil ?_ (by kernel_rfl))
          (repeat (first | refine c_reg ?_ | refine c_rnil ?_ | refine c_inBlock ?_ | refine c_exit ?_ | refine c_false ?_ | refine c_op (by first | exact t_move | exact t_assign | exact t_add | fail) ?_ | fail))
          exact (ihB (n + 1, QN, t, vb', vn2) (hmeet ()) (by dsimp only; omega)).sub (by repeat (first | exact trivial | refine ⟨has_rfl rfl, ?_⟩ | fail))
  rintro ⟨hfin, hpos⟩
  have hne : ((body.drop at0).isEmpty && Q0.isEmpty) = false := by
    cases hc2 : (body.drop at0).isEmpty && Q0.isEmpty with
    | false => rfl
    | true =>
      rw [Bool.and_eq_true, List.isEmpty_iff, List.isEmpty_iff] at hc2
      rw [hc2.1] at hbl
      have h1 : at0 = body.length := by simp at hbl; omega
      exact absurd ⟨h1, by rw [hc2.2]; rfl⟩ hemp
  rw [setM, hne, hfin] at hset
  simp only [Bool.false_eq_true, if_false, Int.toNat_natCast] at hset
  rw [List.append_cons, List.drop_drop] at hset
  refine c_op (t_loadPg 100005 100006 100007) ?_
  (repeat (first | refine c_rnil ?_ | refine c_inBlock ?_ | refine c_op (by first | exact t_assignG | exact t_bs | fail) ?_ | refine c_opW t_app ?_ | fail))
  exact (ih (at0 + n, QQ.drop s, ps ++ [⟨0, 0, 0, 0, (body.drop at0).take n, QQ.take s⟩], f) ⟨hn1, hset, by dsimp only; omega, by dsimp only; omega⟩ (by dsimp only; omega)).sub (by repeat (first | exact trivial | refine ⟨has_rfl rfl, ?_⟩ | fail))
theorem setP_f {body : List Line} {notes : List (List Line)} {h : Int} (hsz : chkM body notes h = 0 → body.length ≤ 1000000 ∧ sumR notes body ≤ 1000000) :
    Fn Tryd.prog 23 [pSl eLine body, pSl (eSl eLine) notes, pI h] (pT2 (pSl ePg (if chkM body notes h = 0 then setAll h body notes else [])) (pI (chkM body notes h))) := ⟨ent23, fun M w vs hm hl0 hf => by
  match vs, hf with
  | [u, v, x], ⟨h1, h2, ⟨h3, h4⟩, _⟩ =>
    subst h3
    exact (set_c M u v body notes h w hm h1 h2 (h4.1 rfl) hsz).mono fun r w' ⟨⟨vp, e, hp⟩, hb⟩ => ⟨⟨vp, _, e, hp, rfl, chk_rng body notes h⟩, hb⟩⟩
end Go.Proofs.YtocoinkhbjlbhaaDoor
end

section
namespace Go.Proofs.YtocoinkhbjlbhaaDoor
open Go Go.RowKit
def errP (t : Tx) (m h : Int) : Int := if errT t m ≠ 0 then errT t m else chkM (bodyT t m) (notesT t m) h
def pagesT (t : Tx) (m h : Int) : List Pg := if errP t m h = 0 then setAll h (bodyT t m) (notesT t m) else []
def SzT (t : Tx) : Prop := ∀ m, errT t m = 0 → (bodyT t m).length ≤ 1000000 ∧ sumR (notesT t m) (bodyT t m) ≤ 1000000
theorem pageText_f {t : Tx} {m h : Int} (h48 : (t.paras.length + t.notes.length) * 24 ≤ 140737488351232) (hsz : SzT t) :
    Fn Tryd.prog 20 [pV eText t, pI m, pI h] (pT2 (pSl ePg (pagesT t m h)) (pI (errP t m h))) := by
  refine fn_of ent20 Tryd.func20 rfl Tryd.ntmps20 rfl fun M0 w0 => ?_
  by_cases he : errT t m = 0
  · have hs := setP_f (body := bodyT t m) (notes := notesT t m) (h := h) (fun _ => hsz m he)
    have hl := linesT_f (t := t) (m := m) h48
    have e1 : errP t m h = chkM (bodyT t m) (notesT t m) h := by unfold errP; rw [if_neg (fun c => c he)]
    have e2 : pagesT t m h = if chkM (bodyT t m) (notesT t m) h = 0 then setAll h (bodyT t m) (notesT t m) else [] := by unfold pagesT; rw [e1]
    rw [he, if_pos rfl, if_pos rfl] at hl
    rw [e1, e2]
    (repeat (first | refine c_seq ?_ | refine c_reg ?_ | refine c_rnil ?_ | refine c_skip ?_ | refine c_false ?_ | refine c_op (by first | exact t_call (h := hl) | exact t_call (h := hs) | exact t_move | exact t_assign | exact t_neqF | exact t_ext0 | exact t_ext1 | exact t_ext30 | exact t_ext31 | exact t_ext32 | exact t_load | exact t_boxP | fail) ?_ | fail))
    refine c_ret2 Tryd.func20 rfl ?_
    exact fun h1 h2 => ⟨_, _, rfl, h1, h2⟩
  · have hl := linesT_f (t := t) (m := m) h48
    have e1 : errP t m h = errT t m := by unfold errP; rw [if_pos he]
    have e2 : pagesT t m h = [] := by unfold pagesT; rw [e1, if_neg he]
    rw [e1, e2]
    (repeat (first | refine c_seq ?_ | refine c_reg ?_ | refine c_rnil ?_ | refine c_true ?_ | refine c_op (by first | exact t_call (h := hl) | exact t_move | exact t_assign | exact t_neqT | exact t_ext30 | exact t_ext31 | exact t_ext32 | exact t_load | exact t_boxP | fail) ?_ | fail))
    refine c_ret2 Tryd.func20 rfl ?_
    exact fun h1 h2 => ⟨_, _, rfl, by rw [show _ = _ from h1]; exact SlOf.nil _ _ _, h2⟩
theorem pageTextR_f {t : Tx} {m h : Int} (hsz : SzT t) :
    Fn Tryd.prog 22 [pV eText t, pI m, pI h] (pT2 (pSl ePg (pagesT t m h)) (pI (errP t m h))) := by
  refine fn_of ent22 Tryd.func22 rfl Tryd.ntmps22 rfl fun M0 w0 => ?_
  by_cases he : errT t m = 0
  · have hs := setR_f (body := bodyT t m) (notes := notesT t m) (h := h) (fun _ => hsz m he)
    have hl := linesTR_f (t := t) (m := m)
    have e1 : errP t m h = chkM (bodyT t m) (notesT t m) h := by unfold errP; rw [if_neg (fun c => c he)]
    have e2 : pagesT t m h = if chkM (bodyT t m) (notesT t m) h = 0 then setAll h (bodyT t m) (notesT t m) else [] := by unfold pagesT; rw [e1]
    rw [he, if_pos rfl, if_pos rfl] at hl
    rw [e1, e2]
    (repeat (first | refine c_seq ?_ | refine c_reg ?_ | refine c_rnil ?_ | refine c_skip ?_ | refine c_false ?_ | refine c_op (by first | exact t_call (h := hl) | exact t_call (h := hs) | exact t_move | exact t_assign | exact t_neqF | exact t_ext0 | exact t_ext1 | exact t_ext30 | exact t_ext31 | exact t_ext32 | exact t_load | exact t_boxP | fail) ?_ | fail))
    refine c_ret2 Tryd.func22 rfl ?_
    exact fun h1 h2 => ⟨_, _, rfl, h1, h2⟩
  · have hl := linesTR_f (t := t) (m := m)
    have e1 : errP t m h = errT t m := by unfold errP; rw [if_pos he]
    have e2 : pagesT t m h = [] := by unfold pagesT; rw [e1, if_neg he]
    rw [e1, e2]
    (repeat (first | refine c_seq ?_ | refine c_reg ?_ | refine c_rnil ?_ | refine c_true ?_ | refine c_op (by first | exact t_call (h := hl) | exact t_move | exact t_assign | exact t_neqT | exact t_ext30 | exact t_ext31 | exact t_ext32 | exact t_load | exact t_boxP | fail) ?_ | fail))
    refine c_ret2 Tryd.func22 rfl ?_
    exact fun h1 h2 => ⟨_, _, rfl, by rw [show _ = _ from h1]; exact SlOf.nil _ _ _, h2⟩
theorem segW_all {ws : List Wd} {a b c : Int} (h0 : 0 ≤ a) (h1 : a ≤ b) (h2 : b ≤ c) : segW ws a c = segW ws a b ++ segW ws b c := by
  unfold segW
  rw [show c.toNat - a.toNat = (b.toNat - a.toNat) + (c.toNat - b.toNat) by omega, List.take_add, List.drop_drop]
  congr 3
  omega
theorem refs_lnGo {ws : List Wd} {first m : Int} : ∀ (l : List Int) (a : Int), 0 ≤ a → ordE ws.length a l = true → refs (lnGo ws first m a l) = notesW (segW ws a ws.length)
  | [], a, h0, h => by
    have := ordE_nil h
    have e : segW ws a ws.length = [] := by unfold segW; rw [this]; simp
    rw [e]; rfl
  | e :: r, a, h0, h => by
    obtain ⟨o1, o2, o3⟩ := ordE_cons h
    have ih := refs_lnGo (ws := ws) (first := first) (m := m) r e (by omega) o3
    rw [segW_all h0 (show a ≤ e by omega) o2, notesW_append, ← ih]
    rfl
theorem refs_lns {ws : List Wd} {first m : Int} (h : OKR ws) (hm : 500 ≤ m) : refs (lnsM ws first m) = notesW ws := by
  unfold lnsM
  have ho := ends_ord hm h.ok
  rw [widsW_len] at ho
  rw [refs_lnGo _ 0 (by omega) ho]
  unfold segW
  simp
theorem refs_body {m : Int} (hm : 500 ≤ m) : ∀ (ps : List (List Wd)) (first : Int), (∀ p ∈ ps, OKR p) → refs (bodyGo m first ps) = notesW ps.flatten
  | [], _, _ => rfl
  | p :: r, first, h => by
    have ih := refs_body hm r (first + p.length) (fun q hq => h q (by simp [hq]))
    simp only [bodyGo, List.flatten_cons, notesW_append]
    rw [← ih, ← refs_lns (first := first) (h p (by simp)) hm]
    unfold refs
    rw [List.flatMap_append]
theorem notesW_nts (l : List Wd) : notesW l = (nts l).map fun n => n - 1 := by unfold notesW nts; rw [List.map_map]; rfl
theorem seqI_map : ∀ (c : Nat) (a : Int), (seqI a c).map (fun n => n - 1) = seqI (a - 1) c
  | 0, _ => rfl
  | c + 1, a => by
    simp only [seqI, List.map_cons, seqI_map c (a + 1)]
    congr 2
    omega
theorem ordM_seq (k : Int) : ∀ (c : Nat) (a : Int), a + c ≤ k → ordM (seqI a c) a k = some (a + c)
  | 0, a, _ => by simp [seqI, ordM]
  | c + 1, a, h => by
    simp only [seqI, ordM]
    rw [if_neg (by omega), ordM_seq k c (a + 1) (by omega)]
    congr 1
    omega
theorem lns_ne {ws : List Wd} {first m : Int} (h : OKR ws) (hm : 500 ≤ m) (h1 : 1 ≤ ws.length) : lnsM ws first m ≠ [] := fun hc => by
  unfold lnsM at hc
  have ho := ends_ord hm h.ok
  have hl := congrArg List.length hc
  rw [lnGo_len] at hl
  rw [List.eq_nil_of_length_eq_zero hl] at ho
  have := ordE_nil ho
  rw [widsW_len] at this
  omega
theorem notesGo_ne {m : Int} (hm : 500 ≤ m) : ∀ (ps : List (List Wd)) (first : Int), (∀ p ∈ ps, OKR p ∧ 1 ≤ p.length) → ∀ x ∈ notesGo m first ps, x ≠ []
  | [], _, _, x, hx => by cases hx
  | p :: r, first, h, x, hx => by
    simp only [notesGo, List.mem_cons] at hx
    rcases hx with rfl | hx
    · exact lns_ne (h p (by simp)).1 hm (h p (by simp)).2
    · exact notesGo_ne hm r _ (fun q hq => h q (by simp [hq])) x hx
theorem notesGo_len {m : Int} : ∀ (ps : List (List Wd)) (first : Int), (notesGo m first ps).length = ps.length
  | [], _ => rfl
  | p :: r, first => by simp [notesGo, notesGo_len r]
theorem VT.okt {t : Tx} (h : VT t) : OKT t := okt_of h.chk
theorem VT.err {t : Tx} (h : VT t) {m : Int} (hm : 500 ≤ m ∧ m ≤ 2000) : errT t m = 0 := by
  unfold errT
  rw [if_neg (fun c => c h.chk), if_neg (by omega)]
theorem VT.refs {t : Tx} (h : VT t) {m : Int} (hm : 500 ≤ m) : Go.Proofs.YtocoinkhbjlbhaaDoor.refs (bodyT t m) = seqI 0 t.notes.length := by
  unfold bodyT
  rw [refs_body hm _ _ h.okt.par, notesW_nts, h.seq, seqI_map]
  rfl
theorem VT.chkM {t : Tx} (h : VT t) {m x : Int} (hm : 500 ≤ m) (hx : 4 ≤ x ∧ x ≤ 100) : Go.Proofs.YtocoinkhbjlbhaaDoor.chkM (bodyT t m) (notesT t m) x = 0 := by
  unfold Go.Proofs.YtocoinkhbjlbhaaDoor.chkM
  have hne := notesGo_ne hm t.notes (wordsN t.paras) (fun p hp => ⟨h.okt.not p hp, (h.len p (List.mem_append_right _ hp)).1⟩)
  have hln : (notesT t m).length = t.notes.length := notesGo_len _ _
  rw [if_neg (by omega), if_neg, h.refs hm, hln]
  · have := ordM_seq t.notes.length t.notes.length 0 (by omega)
    rw [this]
    simp
  · rw [Bool.not_eq_true, List.any_eq_false]
    intro y hy
    have := hne y hy
    simpa using this
theorem bodyGo_len {m : Int} (hm : 500 ≤ m) : ∀ (ps : List (List Wd)) (first : Int), (∀ p ∈ ps, OKR p) → (bodyGo m first ps).length ≤ wordsN ps
  | [], _, _ => by simp [bodyGo, wordsN]
  | p :: r, first, h => by
    have ih := bodyGo_len hm r (first + p.length) (fun q hq => h q (by simp [hq]))
    have h1 := lnsM_len (first := first) (h p (by simp)) hm
    have e : wordsN (p :: r) = p.length + wordsN r := by simp [wordsN]
    simp only [bodyGo, List.length_append]
    omega
theorem seqI_len : ∀ (c : Nat) (a : Int), (seqI a c).length = c
  | 0, _ => rfl
  | c + 1, a => by simp [seqI, seqI_len c]
theorem flatMap_len {α β : Type} {f : α → List β} {k : Nat} : ∀ {l : List α}, (∀ x ∈ l, (f x).length ≤ k) → (l.flatMap f).length ≤ l.length * k
  | [], _ => by simp
  | x :: r, h => by
    have ih := flatMap_len (l := r) (f := f) (k := k) (fun y hy => h y (by simp [hy]))
    have := h x (by simp)
    simp only [List.flatMap_cons, List.length_append, List.length_cons, Nat.succ_mul]
    omega
theorem VT.sz {t : Tx} (h : VT t) : SzT t := fun m he => by
  have hm : 500 ≤ m := by
    unfold errT at he
    rw [if_neg (fun c => c h.chk)] at he
    split at he
    · cases he
    · omega
  have h1 := bodyGo_len hm t.paras 0 h.okt.par
  have h2 := wordsN_le (l := t.paras) (fun p hp => (h.okt.par p hp).len)
  have h3 := h.np
  have h4 := h.nn
  refine ⟨by unfold bodyT; omega, ?_⟩
  unfold sumR
  rw [h.refs hm]
  have := flatMap_len (f := noteAt (notesT t m)) (k := 500) (l := seqI 0 t.notes.length) (fun x _ => by
    unfold noteAt
    cases hg : (notesT t m)[x.toNat]? with
    | none => simp
    | some y =>
      have hy := List.mem_of_getElem? hg
      have : ∀ (ps : List (List Wd)) (first : Int), (∀ p ∈ ps, OKR p) → ∀ y ∈ notesGo m first ps, y.length ≤ 500 := by
        intro ps
        induction ps with
        | nil => intro _ _ y hy; cases hy
        | cons p r ih =>
          intro first h y hy
          simp only [notesGo, List.mem_cons] at hy
          rcases hy with rfl | hy
          · have := lnsM_len (first := first) (h p (by simp)) hm
            have := (h p (by simp)).len
            omega
          · exact ih _ (fun q hq => h q (by simp [hq])) y hy
      simpa using this t.notes _ h.okt.not y hy)
  rw [seqI_len] at this
  omega
end Go.Proofs.YtocoinkhbjlbhaaDoor
end

section
namespace Go.Proofs.YtocoinkhbjlbhaaDoor
open Go Go.RowKit
theorem VT.h48 {t : Tx} (h : VT t) : (t.paras.length + t.notes.length) * 24 ≤ 140737488351232 := by
  have h1 := h.np
  have h2 := h.nn
  omega
theorem textV_f {l : List Int} : Fn Tryd.prog 8 [pSl eI l] (pV eText (textM l)) := text_f.fn
set_option maxHeartbeats 4000000 in
theorem pageTextLaw_f {l : List Int} {a n wr : Int} : Fn Tryd.prog 5 [pSl eI l, pI a, pI n, pI wr] (pB true) := by
  have hv := textM_vt l
  have ha := aro_bd a 1501 (by omega)
  have hn := aro_bd n 97 (by omega)
  obtain ⟨t, ht⟩ : ∃ t, t = textM l := ⟨_, rfl⟩
  have tf := textV_f (l := l)
  rw [← ht] at hv tf
  obtain ⟨m, hm⟩ : ∃ m, m = 500 + aro a 1501 := ⟨_, rfl⟩
  obtain ⟨h, hh⟩ : ∃ h, h = 4 + aro n 97 := ⟨_, rfl⟩
  have hm' : 500 ≤ m ∧ m ≤ 2000 := by omega
  have hh' : 4 ≤ h ∧ h ≤ 100 := by omega
  have hf := height_f (n := n)
  rw [← hh] at hf
  have e0 := hv.err hm'
  have c0 := hv.chkM (m := m) hm'.1 hh'
  have eP : errP t m h = 0 := by unfold errP; rw [if_neg (fun c => c e0)]; exact c0
  have pP : pagesT t m h = setAll h (bodyT t m) (notesT t m) := by unfold pagesT; rw [if_pos eP]
  have f1 := pageText_f (m := m) (h := h) hv.h48 hv.sz
  have f2 := pageTextR_f (m := m) (h := h) hv.sz
  rw [eP, pP] at f1 f2
  have f3 := linesT_f (t := t) (m := m) hv.h48
  rw [e0, if_pos rfl, if_pos rfl] at f3
  have f4 := setP_f (body := bodyT t m) (notes := notesT t m) (h := h) (fun _ => hv.sz m e0)
  rw [c0, if_pos rfl] at f4
  have g1 := fun x y => pageText_f (t := t) (m := x) (h := y) hv.h48 hv.sz
  have g2 := fun x y => pageTextR_f (t := t) (m := x) (h := y) hv.sz
  have sp := samePages_f (ps := setAll h (bodyT t m) (notesT t m)) rfl
  refine fn_of ent5 Tryd.func5 rfl Tryd.ntmps5 rfl fun M0 w0 => ?_
  (repeat (first | refine c_seq ?_ | fail))
  refine c_reg ?_
  (repeat (first | refine c_seq ?_ | refine c_rnil ?_ | refine c_op (by first | exact t_assign | fail) ?_ | fail))
  (repeat (first | refine c_seq ?_ | fail))
  refine c_reg ?_
  (repeat (first | refine c_seq ?_ | refine c_rnil ?_ | refine c_op (by first | exact t_call (h := tf) | exact t_move | exact t_allocV | fail) ?_ | refine c_stV ?_ | fail))
  (repeat (first | refine c_seq ?_ | fail))
  refine c_reg ?_
  (repeat (first | refine c_seq ?_ | refine c_rnil ?_ | refine c_op (by first | exact t_call (h := (around03_f (by omega))) | exact t_move | exact t_assign | exact t_add | fail) ?_ | fail))
  refine c_to 10 (.pu (pI m)) ?_ ?_
  · exact has_int rfl hm.symm
  (repeat (first | refine c_seq ?_ | fail))
  refine c_draw0 mixed (by kernel_rfl) ?_
  (repeat (first | refine d_op (by first | exact t_call (h := hf) | exact t_call (h := f1) | exact t_move | exact t_assign | exact t_ext0 | exact t_ext1 | exact t_load | fail) ?_ | fail))
  refine d_nil (q_nil ?_ (by kernel_rfl))
  (repeat (first | refine c_seq ?_ | fail))
  refine c_draw0 mixed (by kernel_rfl) ?_
  (repeat (first | refine d_op (by first | exact t_call (h := hf) | exact t_call (h := f2) | exact t_move | exact t_assign | exact t_ext0 | exact t_ext1 | exact t_load | fail) ?_ | fail))
  refine d_nil (q_nil ?_ (by kernel_rfl))
  (repeat (first | refine c_seq ?_ | refine c_reg ?_ | refine c_rnil ?_ | refine c_yes ?_ | refine c_op (by first | exact t_call (h := f3) | exact t_call (h := hf) | exact t_call (h := f4) | exact t_call (h := (g1 m wr)) | exact t_call (h := (g2 m wr)) | exact t_call (h := (g1 wr wr)) | exact t_call (h := (g2 wr wr)) | exact t_call (h := sp) | exact t_call (h := lives27_f) | exact t_move | exact t_assign | exact t_pickT | exact t_eqlT | exact t_ext0 | exact t_ext1 | exact t_ext30 | exact t_ext31 | exact t_ext32 | exact t_load | fail) ?_ | fail))
  refine c_ret1 Tryd.func5 rfl ?_
  exact fun h => h
end Go.Proofs.YtocoinkhbjlbhaaDoor
end

section
namespace Go.Proofs.YtocoinkhbjlbhaaDoor
set_option maxRecDepth 100000
open Go Go.RowKit Go.Deep
def Rd {α : Type} (P : Program) (E : Enc α) (t : TypeId) : Prop := ∀ {H : Type} {enc : TypeId × Value → H} {W : World} {base : Nat} {spare : Nat → Bool} {held : Bool} {fuel : Nat} {cs : List Value} {x : DataW H × List MemPlace},
  DataW.trod enc P W base spare held fuel t cs = some x → (∀ n ∈ x.1.weights P t, n ≤ reachBytes) → ∃ d, E.R (fun _ => none) W cs d
section
variable {P : Program}
theorem rd_int {t : TypeId} (ht : P.underlying t = some (.int .i64)) : Rd P eI t := fun h _ => by
  obtain ⟨n, rfl, _, hw⟩ := DataW.trod_int ht h
  refine ⟨n, rfl, fun _ => ?_, fun e => by cases e⟩
  simp [Lit.wf] at hw
  exact hw
theorem weights_all {H : Type} {e : TypeId} : ∀ {l : List (DataW H)} {d : DataW H}, d ∈ l → ∀ n ∈ d.weights P e, n ∈ DataW.weightsAll P e l
  | x :: r, d, hd, n, hn => by
    simp only [DataW.weightsAll, List.mem_append]
    rcases List.mem_cons.1 hd with rfl | hd
    · exact .inl hn
    · exact .inr (weights_all hd n hn)
theorem rd_slice {α : Type} [Inhabited α] {E : Enc α} {t e : TypeId} (ht : P.underlying t = some (.slice e)) (hC : P.cellsOf e = E.sz) (hB : P.bytesOf e = E.by_) (hE : Rd P E e) : Rd P (eSl E) t := fun {H enc W base spare held fuel cs x} h hw => by
  rcases open_slice ht h with ⟨rfl, _⟩ | ⟨a, len, cap, m, n, D, Pl, rfl, hb, hl, hm, hmm, hx, hi⟩
  · exact ⟨[], _, rfl, SlOf.nil _ _ _⟩
  · subst hx
    simp only [DataW.weights, ht] at hw
    have hle : len ≤ m := by rw [hmm]; split <;> omega
    have hbytes : len * E.by_ ≤ 140737488351232 := by
      have := hw _ (by exact List.mem_cons_self)
      simp only [List.length_map, List.length_range, hB] at this
      have h2 : len * E.by_ ≤ (len + (m - len)) * E.by_ := Nat.mul_le_mul_right _ (by omega)
      exact Nat.le_trans h2 this
    have hel : ∀ i, i < len → ∃ d, Elem E (fun _ => none) W (a.add (i * E.sz)) d := fun i hi' => by
      obtain ⟨cs', hc, htr⟩ := hi i (by omega)
      obtain ⟨d, hd⟩ := hE htr (fun k hk => hw k (List.mem_cons_of_mem _ (List.mem_append_left _ (weights_all (List.mem_map.2 ⟨i, List.mem_range.2 hi', rfl⟩) k hk))))
      rw [hC] at hc
      obtain ⟨_, hcl, hat⟩ := World.cells?_some hc
      refine ⟨d, cs', hd, fun j c hj => ?_⟩
      have hjl : j < cs'.length := (List.getElem?_eq_some_iff.1 hj).1
      have := hat j (by omega)
      exact ⟨this.trans hj, fun p hp => by cases hp⟩
    obtain ⟨f, hf⟩ := choose_lt hel
    refine ⟨(List.range len).map f, _, rfl, a, cap, by simp, by simpa using hl, hm, (fun h => by cases h), by simpa using hbytes, fun ad he i hi' => ?_⟩
    cases he
    have hi2 : i < len := by simpa using hi'
    have := hf i hi2
    simpa using this
end
instance : Inhabited Line := ⟨⟨0, 0, [], []⟩⟩
theorem rdI : Rd Tryd.prog eI 3 := rd_int Tryd.underlying3
theorem rdSI : Rd Tryd.prog (eSl eI) 22 := rd_slice Tryd.underlying22 (by kernel_rfl) (by kernel_rfl) rdI
end Go.Proofs.YtocoinkhbjlbhaaDoor
end

section
namespace Go.Proofs.YtocoinkhbjlbhaaDoor
open Go Go.ChangeShapes Go.WideShapes Go.ChangeAt Go.RowKit
theorem pageTextOwn : ownKnob Tryd.prog.godebug = none := by kernel_rfl
theorem pageTextLaid : laidOutB Tryd.prog = true := by kernel_rfl
theorem pageTextWf {n : Int} (h : (Lit.int .i64 n).wf = true) : I64 n := by
  simp [Lit.wf] at h
  exact h
abbrev pageTextTab : List (String × DataW Unit) := [("rollbook/glyph.widths", Lib.tabData .u8 tbl)]
theorem pageTextTabs {W : World} (h : laidMetH Tryd.prog pageTextTab W) : Lays (fun _ => none) W := by
  rw [MakeChecks.laidMetH_plain _ _ _ (by kernel_rfl)] at h
  have hg : Tryd.prog.globalNamed "rollbook/glyph.widths" = some 0 := by kernel_rfl
  have hT := Lib.tabIs_of_head hg (t := 96) (e := 5) (n := 94) (by kernel_rfl) (by kernel_rfl) (by kernel_rfl) (by kernel_rfl) (by kernel_rfl) h
  refine ⟨fun i hi => ⟨?_, fun _ e => by cases e⟩⟩
  have := hT.cell hg i hi
  rw [List.getD_eq_getElem?_getD, List.getElem?_eq_getElem hi] at this
  exact this
theorem pageTextDoor (os : Os) (args : Array Value) : laidMetH Tryd.prog pageTextTab ((World.doorLaid Tryd.prog 400 os).forCall (fun _ _ => 0) ⟨#[], args, []⟩).memory :=
  laidMetH_of_parts3 (fuel := 8) (laidMet_of_run' 8 (by kernel_rfl) (by kernel_rfl)) (by kernel_rfl) (by kernel_rfl)
set_option maxRecDepth 100000 in
theorem pageTextLifted (os : Os) (started : os.Started) (H : Type) (enc : TypeId × Value → H) :
    ReturnsInHanded {} Tryd.checked os 5 .any (fun w args => (Rows.pageTextSpec.pre enc Tryd.prog Tryd.f5 [] false w args ∧ laidMetH Tryd.prog pageTextTab w) ∧ sizedMet enc Tryd.prog Tryd.f5 (OpenSpec.ofChange Rows.pageTextSpec) false w args)
      (Rows.pageTextSpec.post enc Tryd.prog Tryd.f5 false true false false) := by
  refine returnsInHanded_of_change_and (C := Tryd.checked) (X := fun w _ => laidMetH Tryd.prog pageTextTab w) (fun _ _ _ hh h => h.of_heap hh) pageTextOwn started (by kernel_rfl) Tryd.func5
    (ChangeSpec.witness_shaped (enc := enc) (C := Tryd.checked) (os := os) (X := fun w _ => laidMetH Tryd.prog pageTextTab w) false (World.doorLaid Tryd.prog 400 os) #[.slice none 0 0, .int .i64 0, .int .i64 0, .int .i64 0] 8 rfl (World.shaped_of_RefB (by kernel_rfl) (by kernel_rfl)) (by kernel_rfl) (by kernel_rfl) (by kernel_rfl) (pageTextDoor os _)) ?_
  intro W base args ds gs before hval0 hW hcnd hsz hL _
  have hval : ∀ (j : Nat) t v, Tryd.f5.params[j]? = some t → args[j]? = some v → Value.okWide Tryd.prog W .any base t v := hval0
  have hW' := hW
  obtain ⟨p, q, hA0, hV, rfl, hfz, hnd⟩ := hW
  have hA : DataW.TrodAll enc Tryd.prog W 0 (fun _ => true) true Tryd.f5.params.toList args.toList ds p := hA0
  rw [Tryd.params5] at hA hval
  obtain ⟨v0, vs0, d0, ds0, p0, q0, hargs, rfl, rfl, h0, r0⟩ := trodAll_cons hA
  obtain ⟨v1, vs1, d1, ds1, p1, q1, rfl, rfl, rfl, h1, r1⟩ := trodAll_cons r0
  obtain ⟨v2, vs2, d2, ds2, p2, q2, rfl, rfl, rfl, h2, r2⟩ := trodAll_cons r1
  obtain ⟨v3, vs3, d3, ds3, p3, q3, rfl, rfl, rfl, h3, r3⟩ := trodAll_cons r2
  obtain ⟨rfl, rfl, rfl⟩ := trodAll_nil r3
  obtain rfl : args = #[v0, v1, v2, v3] := by cases args; simp_all
  obtain ⟨rfl, rfl⟩ := trodVars_none hV
  obtain ⟨a0, len0, cap0, rfl⟩ := okWide_slice Tryd.underlying22 (hval 0 22 v0 rfl rfl)
  have k0 := h0
  have lt0 : ∀ x ∈ p0, x.block < W.heap.size := by obtain ⟨m, hm⟩ := k0; exact DataW.trod_lt m _ _ _ hm
  obtain ⟨z0, w0⟩ : ∃ l, SlOf eI (fun _ => none) W (.slice a0 len0 cap0) l := by
    obtain ⟨fuel, hf⟩ := h0
    obtain ⟨l, u, hu, hs⟩ := rdSI hf (fun n hn => by
      have := List.all_eq_true.1 hsz n (DataW.weights_mem_each (j := 0) (t := 22) (d := d0) rfl rfl n hn)
      simpa using this)
    simp [Value.cells] at hu
    subst hu
    exact ⟨l, hs⟩
  obtain ⟨a1, rfl, rfl, rfl, w1⟩ := open_int Tryd.underlying3 (hval 1 3 v1 rfl rfl) h1
  obtain ⟨a2, rfl, rfl, rfl, w2⟩ := open_int Tryd.underlying3 (hval 2 3 v2 rfl rfl) h2
  obtain ⟨a3, rfl, rfl, rfl, w3⟩ := open_int Tryd.underlying3 (hval 3 3 v3 rfl rfl) h3
  clear hA0 hval0
  refine Calls.mono (pageTextLaw_f.run (fun _ => none) W [.slice a0 len0 cap0, .int .i64 a1, .int .i64 a2, .int .i64 a3] (fun _ _ => rfl) (pageTextTabs hL) ⟨w0, ⟨rfl, fun _ => pageTextWf w1, fun e => by cases e⟩, ⟨rfl, fun _ => pageTextWf w2, fun e => by cases e⟩, ⟨rfl, fun _ => pageTextWf w3, fun e => by cases e⟩, trivial⟩) fun e W' ⟨v, he, hv, bel⟩ => ?_
  have hv : v = .bool true := hv
  subst he hv
  exact ⟨_, rfl, _, _, _, [], _, [], hW', trodAll_mk1 (shut_bool Tryd.underlying4 _), (trodAll_cons_mk (Below.trod pageTextLaid (by kernel_rfl) (of_decide_eq_true (by kernel_rfl)) k0 bel lt0) (trodAll_cons_mk (shut_int Tryd.underlying3 w1) (trodAll_cons_mk (shut_int Tryd.underlying3 w2) (trodAll_cons_mk (shut_int Tryd.underlying3 w3) trodAll_mk0)))), rfl, bel.frame _, fun h => by cases h⟩
theorem pageText_proved : Rows.PageTextSaid :=
  OpenClaim.holds_of_wide 5 Tryd.f5 rfl rfl rfl rfl rfl rfl rfl ⟨rfl, rfl, rfl, rfl, rfl⟩ rfl rfl rfl rfl rfl (by kernel_rfl) Tryd.func5 (by kernel_rfl)
    (of_decide_eq_true (by kernel_rfl)) (by unfold Func.isWrapper; first | (rw [if_pos (by decide +kernel)]; kernel_rfl) | (rw [if_neg (by decide +kernel)]; exact ⟨rfl, rfl⟩))
    (fun os started H enc _ => pageTextLifted os started H enc)
theorem pageText_card : Rows.PageTextCardSaid :=
  Claim7.holds_tied_plain_at .later [] [.data] true (true, "3e1017bbe245d220a28fd9e6071ba9ea44c5eed799b6b6bde6659dd7b8f8309f") false
    pageText_proved (fun _ h => by cases h) (by kernel_rfl) (fun _ h => by cases h) pageText_row_tie rfl ⟨rfl, rfl⟩ (by kernel_rfl) rfl
    (fun f fn hf hfn => by
      obtain rfl : f = 5 := Option.some.inj ((show Tryd.prog.funcNamed "rollbook/rollbooklaw27.PageText" = some 5 by kernel_rfl).symm.trans hf) |>.symm
      obtain rfl : fn = Tryd.f5 := (Option.some.inj (Tryd.func5.symm.trans hfn)).symm
      exact ⟨by kernel_rfl, fun j t ht => by
        rw [Tryd.params5] at ht
        have hm : t ∈ [22, 3, 3, 3] := by simpa using Array.mem_of_getElem? ht
        have hall : ([22, 3, 3, 3].all fun u => !Tryd.prog.wantsStandIn u) = true := by kernel_rfl
        exact (show Tryd.prog.wantsStandIn t = false by simpa using List.all_eq_true.1 hall t hm)⟩)
    (by kernel_rfl)
end Go.Proofs.YtocoinkhbjlbhaaDoor
end
