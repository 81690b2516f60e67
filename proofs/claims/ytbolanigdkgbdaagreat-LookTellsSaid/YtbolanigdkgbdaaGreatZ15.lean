/- Part of the proof: lemmas for what the last file states; no condition. -/
import Derived.Test.YtbolanigdkgbdaaGreatZ14
import Derived.ChangeSlices
import Derived.Deep.Slices
import Derived.WideShapes
import Derived.Lib.SmallJoins
set_option linter.unusedSectionVars false
namespace Go.Proofs.YtbolanigdkgbdaaGreat
open Go Go.RowKit
set_option maxRecDepth 10000
set_option linter.unusedVariables false
def pkA (ml : List (Int × Int)) (seen : List Nat) (A : Ar) : Ar := seen.foldl (fun (A : Ar) (j : Nat) => A.poke (gE ml (j : Int)).1 (gE ml (j : Int)).2) A
theorem pkA_snoc {ml : List (Int × Int)} {seen : List Nat} {A : Ar} {j : Nat} : pkA ml (seen ++ [j]) A = (pkA ml seen A).poke (gE ml (j : Int)).1 (gE ml (j : Int)).2 := by simp [pkA, List.foldl_append]
theorem pkA_len {ml : List (Int × Int)} {seen : List Nat} {A : Ar} : (pkA ml seen A).w.length = A.w.length := by
  unfold pkA
  induction seen generalizing A with
  | nil => rfl
  | cons x seen ih => rw [List.foldl_cons, ih, Ar.poke_len]
def mkA (a b : Int) (c : Nat) : Ar := (((⟨List.replicate c 0, 0, 0, 0, 0, 0, 0, 0, 0, 0, false⟩ : Ar).poke 2 (21 + a + 3 * b)).poke (7 + a) (-1)).poke (9 + a) (28 + 2 * a)
def IsMk (a b : Int) (c : Nat) : Value → Hp → Hp → Prop := fun v N H => ∃ ba wv x, x = mkA a b c ∧ v = .tuple #[.pointer (some ⟨ba, 0, none⟩), .nilIface] ∧ N = [arB ba wv x, arW wv c x] ∧ H = []
theorem Ar.poke_yes {A : Ar} {i x : Int} (h : A.hit i = true) : A.poke i x = ⟨A.w.set i.toNat x, A.d0, A.d1, A.d2, A.d3, A.d4, A.k, A.at_, A.old, A.nw, A.ok⟩ := by unfold Ar.poke; rw [if_pos h]
theorem Ar.poke_no {A : Ar} {i x : Int} (h : ¬ A.hit i = true) : A.poke i x = A := by unfold Ar.poke; rw [if_neg h]
theorem Ar.poke_hit (A : Ar) (i x j : Int) : (A.poke i x).hit j = A.hit j := by unfold Ar.hit; rw [Ar.poke_len]
theorem Ar.poke_comm {A : Ar} {i j x y : Int} (h : i ≠ j) : (A.poke i x).poke j y = (A.poke j y).poke i x := by
  by_cases h1 : A.hit i = true
  · by_cases h2 : A.hit j = true
    · have e1 := Ar.poke_yes (A := A.poke i x) (i := j) (x := y) (by rw [Ar.poke_hit]; exact h2)
      have e2 := Ar.poke_yes (A := A.poke j y) (i := i) (x := x) (by rw [Ar.poke_hit]; exact h1)
      rw [e1, e2, Ar.poke_yes h1, Ar.poke_yes h2]
      obtain ⟨q1, _⟩ := Ar.hit_yes h1
      obtain ⟨q2, _⟩ := Ar.hit_yes h2
      show (⟨(A.w.set i.toNat x).set j.toNat y, _, _, _, _, _, _, _, _, _, _⟩ : Ar) = ⟨(A.w.set j.toNat y).set i.toNat x, _, _, _, _, _, _, _, _, _, _⟩
      rw [List.set_comm _ _ (by omega : i.toNat ≠ j.toNat)]
    · rw [Ar.poke_no (A := A.poke i x) (by rw [Ar.poke_hit]; exact h2), Ar.poke_no h2]
  · rw [Ar.poke_no h1, Ar.poke_no (A := A.poke j y) (by rw [Ar.poke_hit]; exact h1)]
theorem mk_all {a b : Int} {c : Nat} {A0 : Ar} {ml : List (Int × Int)} {seen : List Nat} (h1 : 1 ≤ a) (hA0 : (⟨List.replicate c 0, 0, 0, 0, 0, 0, 0, 0, 0, 0, false⟩ : Ar) = A0) (hml : ml.Perm [((2 : Int), 21 + a + 3 * b), (7 + a + 0, (-1 : Int)), (7 + a + 2, 2 * (14 + a))]) (hn : seen.Nodup) (hs : ∀ j ∈ seen, j < ml.length) (hall : ∀ j, j < ml.length → j ∈ seen) : pkA ml seen A0 = mkA a b c := by
  have e1 : pkA ml seen A0 = (seen.map fun j : Nat => gE ml (j : Int)).foldl (fun A e => A.poke e.1 e.2) A0 := by unfold pkA; rw [List.foldl_map]
  have hp : seen.Perm (List.range ml.length) := (List.perm_ext_iff_of_nodup hn List.nodup_range).2 fun j => by
    rw [List.mem_range]; exact ⟨hs j, hall j⟩
  have e2 : (List.range ml.length).map (fun j : Nat => gE ml (j : Int)) = ml := by
    apply List.ext_getElem
    · simp
    · intro i h1 h2; simp [gE, h2]
  have hp2 : (seen.map fun j : Nat => gE ml (j : Int)).Perm [((2 : Int), 21 + a + 3 * b), (7 + a + 0, (-1 : Int)), (7 + a + 2, 2 * (14 + a))] := by
    have := hp.map (fun j : Nat => gE ml (j : Int))
    rw [e2] at this
    exact this.trans hml
  rw [e1, hp2.foldl_eq' fun x hx y hy z => ?_]
  · subst hA0
    show ((Ar.poke _ 2 _).poke (7 + a + 0) (-1)).poke (7 + a + 2) (2 * (14 + a)) = mkA a b c
    unfold mkA
    rw [show 7 + a + 0 = 7 + a by omega, show 7 + a + 2 = 9 + a by omega, show 2 * (14 + a) = 28 + 2 * a by omega]
  · by_cases he : x.1 = y.1
    · have hx' := hp2.mem_iff.1 hx
      have hy' := hp2.mem_iff.1 hy
      simp at hx' hy'
      rcases hx' with rfl | rfl | rfl <;> rcases hy' with rfl | rfl | rfl <;> first | rfl | (exfalso; simp at he; omega)
    · exact Ar.poke_comm he
theorem p_Make {a b d : Int} {c : Nat} (hc : okC a b c d) : Fn Tryz.prog 35 [.agg #[.int .i64 a, .int .i64 b, .int .i64 (c : Int), .int .i64 d]] ([]) ([]) (IsMk a b c) := by
 refine Fn.enter Tryz.func35 (by kernel_rfl) rfl (n := 40) rfl rfl (fun w => ?_)
 have hc0 := hc
 obtain ⟨h1, h2, h3, h4, h5, h6, h7, h8, h9⟩ := hc
 refine W ?_
 refine At.box rfl rfl rfl (.t rfl) (fun b1 hb1 => ⟨.all, ?_⟩)
 refine W ?_
 refine At.callVR rfl rfl rfl (.k rfl .nil) (.nil) (fun hg => p_Is hc0) .all ?_
 refine W ?_
 refine eA rfl (R.neqNilI Tryz.underlying70 (.t rfl)) ?_
 refine W ?_
 refine At.callP (fst := []) (cap := []) rfl rfl rfl Ev.f (.k rfl .nil) rfl (a_New (n := c) (by omega)) (fun _ h => nomatch h) (fun v N1 H1 hR => ?_); obtain ⟨ba, wv, rfl, rfl, rfl⟩ := hR; refine ⟨rfl, .all, ?_⟩; generalize hA0 : (⟨List.replicate c 0, 0, 0, 0, 0, 0, 0, 0, 0, 0, false⟩ : Ar) = A0
 refine W ?_
 refine At.dag [tt 1, tt 4, tt 8, tt 11] 13 (mT 17 [1, 4, 8, 11]) ([.blk b1 (.cells #[.int .i64 a, .int .i64 b, .int .i64 (c : Int), .int .i64 d] 23)]) (keepOf sl) (by kernel_rfl) (by kernel_rfl) (fun G hnode hdone => ?_)
 have g0 : ∀ (bm q : Nat) (ml : List (Int × Int)) (hml : ml.Perm [((2 : Int), 21 + a + 3 * b), (7 + a + 0, (-1 : Int)), (7 + a + 2, 2 * (14 + a))]), At w 40 [] [(16, true, .map (some bm)), (17, true, .agg #[.int .i64 a, .int .i64 b, .int .i64 (c : Int), .int .i64 d]), (18, iv (21 + a + 3 * b)), (19, true, .agg #[.int .i64 a, .int .i64 b, .int .i64 (c : Int), .int .i64 d]), (20, iv (7 + a)), (21, iv (7 + a + 0)), (22, true, .agg #[.int .i64 a, .int .i64 b, .int .i64 (c : Int), .int .i64 d]), (23, iv (7 + a)), (24, iv (7 + a + 2)), (25, true, .agg #[.int .i64 a, .int .i64 b, .int .i64 (c : Int), .int .i64 d]), (26, iv (14 + a)), (27, iv (2 * (14 + a))), (28, true, .map (some bm)), (29, pt q 0), (1, pt b1 0), (5, pt ba 0)] (itE q bm ml [] :: mapE kfZ vfZ bm ml :: [arB ba wv A0, arW wv c A0, .blk b1 (.cells #[.int .i64 a, .int .i64 b, .int .i64 (c : Int), .int .i64 d] 23)]) ([]) (G 0 (mF 17 [])) := fun bm q ml hml => by
  refine hdone _ _ _ (by kernel_rfl) ?_
  refine W ?_
  refine At.loop1 (fun (seen : List Nat) => seen.Nodup ∧ ∀ j ∈ seen, j < ml.length) (fun (seen : List Nat) => ml.length - seen.length) (fun (seen : List Nat) => [(5, true, .pointer (some ⟨ba, 0, none⟩)), (29, true, .pointer (some ⟨q, 0, none⟩))]) (fun (seen : List Nat) => [itE q bm ml seen, mapE kfZ vfZ bm ml, arB ba wv (pkA ml seen A0), arW wv c (pkA ml seen A0)]) (fun (seen : List Nat) => []) ([]) ⟨List.nodup_nil, by simp⟩ (.cons rfl (.cons rfl .nil)) sl rfl (fun seen hi => ?_)
  obtain ⟨hs1, hs2⟩ := hi; have hsb := nodup_bound _ _ hs1 hs2
  refine W ?_
  refine At.mapNextO (kf := kfZ) (vf := vfZ) (ml := ml) (seen := seen) rfl rfl rfl (.t rfl) M1 (fun o => .here) (fun o ho => ⟨.all, ?_⟩)
  refine eA rfl (R.extractNext (.t rfl)) ?_
  refine W ?_
  refine At.cond (.t rfl) (fun c2 => ?_) (fun c2 => ?_)
  ·
   obtain ⟨j, rfl⟩ : ∃ j, o = some j := (by cases o with | none => simp at c2 | some j => exact ⟨j, rfl⟩); obtain ⟨hj1, hj2⟩ := ho.2 j rfl
   refine W ?_
   refine eA rfl (R.entry (kf := kfZ) (vf := vfZ) (ml := ml) (seen := seen) (j := j) (.t rfl) (Holds.st M1) (Holds.st M0) hj1) ?_
   refine W ?_
   refine At.callM (fst := []) (cap := []) rfl rfl rfl Ev.f (.k rfl (.k rfl (.k rfl .nil))) rfl (.n (.skip (.skip (.take (.take .nil))))) .nil (a_Poke (n := c) (a := (pkA ml seen A0)) (by rw [pkA_len, ← hA0]; exact List.length_replicate) (by omega)) rfl .nil ⟨.all, ?_⟩
   refine W ?_
   refine At.re (N' := [itE q bm ml (seen ++ [j]), mapE kfZ vfZ bm ml, arB ba wv (pkA ml (seen ++ [j]) A0), arW wv c (pkA ml (seen ++ [j]) A0)]) (by rw [pkA_snoc]; rfl) ?_
   refine W ?_
   exact At.again1 (seen ++ [j]) ⟨(List.nodup_append.2 ⟨hs1, by simp, fun x hx y hy => by simp at hy; subst hy; intro e; subst e; exact hj2 hx⟩), fun x hx => by rcases List.mem_append.1 hx with h | h; exact hs2 x h; simp at h; subst h; exact hj1⟩ (by have h := nodup_bound ml.length (seen ++ [j]) (List.nodup_append.2 ⟨hs1, by simp, fun x hx y hy => by simp at hy; subst hy; intro e; subst e; exact hj2 hx⟩) (fun x hx => by rcases List.mem_append.1 hx with h | h; exact hs2 x h; simp at h; subst h; exact hj1); rw [List.length_append] at *; simp at *; omega) (.cons rfl (.cons rfl .nil)) (List.Sublist.refl _) rfl
  ·
   have hon : o = none := (by cases o with | none => rfl | some j => simp at c2); have hall := ho.1 hon; subst hon
   refine W ?_
   exact At.final2 (N' := [arB ba wv (pkA ml seen A0), arW wv c (pkA ml seen A0)]) rfl (.t rfl) (.t rfl) sl (⟨ba, wv, pkA ml seen A0, mk_all h1 hA0 hml hs1 hs2 hall, rfl, rfl, rfl⟩)
 have g1 : ∀ (bm : Nat) (ml : List (Int × Int)) (hml : ml.Perm [((2 : Int), 21 + a + 3 * b), (7 + a + 0, (-1 : Int)), (7 + a + 2, 2 * (14 + a))]), At w 40 [] [(16, true, .map (some bm)), (17, true, .agg #[.int .i64 a, .int .i64 b, .int .i64 (c : Int), .int .i64 d]), (18, iv (21 + a + 3 * b)), (19, true, .agg #[.int .i64 a, .int .i64 b, .int .i64 (c : Int), .int .i64 d]), (20, iv (7 + a)), (21, iv (7 + a + 0)), (22, true, .agg #[.int .i64 a, .int .i64 b, .int .i64 (c : Int), .int .i64 d]), (23, iv (7 + a)), (24, iv (7 + a + 2)), (25, true, .agg #[.int .i64 a, .int .i64 b, .int .i64 (c : Int), .int .i64 d]), (26, iv (14 + a)), (27, iv (2 * (14 + a))), (28, true, .map (some bm)), (1, pt b1 0), (5, pt ba 0)] (mapE kfZ vfZ bm ml :: [arB ba wv A0, arW wv c A0, .blk b1 (.cells #[.int .i64 a, .int .i64 b, .int .i64 (c : Int), .int .i64 d] 23)]) ([]) (G 1 (mF 17 [16])) := fun bm ml hml => by
  refine hnode _ _ _ _ [(16, [], 0, (mF 17 []))] (by kernel_rfl) kz ?_
  ·
   refine At.rangeMap (kf := kfZ) (vf := vfZ) (ml := ml) rfl rfl rfl Tryz.underlying107 (.t rfl) M0 (fun b2 hb2 => ⟨kz, ?_⟩)
   refine W ?_
   exact wk (g0 bm b2 ml hml)
 have g2 : ∀ (bm : Nat) (ml : List (Int × Int)) (hml : ml.Perm [((2 : Int), 21 + a + 3 * b), (7 + a + 0, (-1 : Int))]), At w 40 [] [(16, true, .map (some bm)), (17, true, .agg #[.int .i64 a, .int .i64 b, .int .i64 (c : Int), .int .i64 d]), (18, iv (21 + a + 3 * b)), (19, true, .agg #[.int .i64 a, .int .i64 b, .int .i64 (c : Int), .int .i64 d]), (20, iv (7 + a)), (21, iv (7 + a + 0)), (22, true, .agg #[.int .i64 a, .int .i64 b, .int .i64 (c : Int), .int .i64 d]), (23, iv (7 + a)), (24, iv (7 + a + 2)), (25, true, .agg #[.int .i64 a, .int .i64 b, .int .i64 (c : Int), .int .i64 d]), (26, iv (14 + a)), (27, iv (2 * (14 + a))), (1, pt b1 0), (5, pt ba 0)] (mapE kfZ vfZ bm ml :: [arB ba wv A0, arW wv c A0, .blk b1 (.cells #[.int .i64 a, .int .i64 b, .int .i64 (c : Int), .int .i64 d] 23)]) ([]) (G 3 (mF 17 [14, 15, 16])) := fun bm ml hml => by
  refine hnode _ _ _ _ [(14, [tt 15], 1, (mF 17 [16]))] (by kernel_rfl) kz ?_
  ·
   refine At.mapIns (kf := kfZ) (vf := vfZ) (ml := ml) (k := ((7 + a + 2, 2 * (14 + a))).1) (v := ((7 + a + 2, 2 * (14 + a))).2) rfl rfl Tryz.underlying107 (keyOk_int Tryz.underlying3) (.t rfl) (.t rfl) (.t rfl) (.n U0) ⟨kz, ?_⟩
   refine W ?_
   exact wk (g1 bm (aput ml ((7 + a + 2, 2 * (14 + a))).1 ((7 + a + 2, 2 * (14 + a))).2) ((perm_put hml (by intro e he; (simp at he; rcases he with rfl | rfl <;> simp <;> omega))).trans (.refl _)))
 have g3 : ∀ (bm : Nat) (ml : List (Int × Int)) (hml : ml.Perm [((2 : Int), 21 + a + 3 * b), (7 + a + 2, 2 * (14 + a))]), At w 40 [] [(16, true, .map (some bm)), (17, true, .agg #[.int .i64 a, .int .i64 b, .int .i64 (c : Int), .int .i64 d]), (18, iv (21 + a + 3 * b)), (19, true, .agg #[.int .i64 a, .int .i64 b, .int .i64 (c : Int), .int .i64 d]), (20, iv (7 + a)), (21, iv (7 + a + 0)), (22, true, .agg #[.int .i64 a, .int .i64 b, .int .i64 (c : Int), .int .i64 d]), (23, iv (7 + a)), (24, iv (7 + a + 2)), (25, true, .agg #[.int .i64 a, .int .i64 b, .int .i64 (c : Int), .int .i64 d]), (26, iv (14 + a)), (27, iv (2 * (14 + a))), (1, pt b1 0), (5, pt ba 0)] (mapE kfZ vfZ bm ml :: [arB ba wv A0, arW wv c A0, .blk b1 (.cells #[.int .i64 a, .int .i64 b, .int .i64 (c : Int), .int .i64 d] 23)]) ([]) (G 3 (mF 17 [7, 15, 16])) := fun bm ml hml => by
  refine hnode _ _ _ _ [(7, [tt 15], 1, (mF 17 [16]))] (by kernel_rfl) kz ?_
  ·
   refine At.mapIns (kf := kfZ) (vf := vfZ) (ml := ml) (k := ((7 + a + 0, (-1 : Int))).1) (v := ((7 + a + 0, (-1 : Int))).2) rfl rfl Tryz.underlying107 (keyOk_int Tryz.underlying3) (.t rfl) (.t rfl) .c (.n U0) ⟨kz, ?_⟩
   refine W ?_
   exact wk (g1 bm (aput ml ((7 + a + 0, (-1 : Int))).1 ((7 + a + 0, (-1 : Int))).2) ((perm_put hml (by intro e he; (simp at he; rcases he with rfl | rfl <;> simp <;> omega))).trans (perm_xzy)))
 have g4 : ∀ (bm : Nat) (ml : List (Int × Int)) (hml : ml.Perm [(7 + a + 0, (-1 : Int)), (7 + a + 2, 2 * (14 + a))]), At w 40 [] [(16, true, .map (some bm)), (17, true, .agg #[.int .i64 a, .int .i64 b, .int .i64 (c : Int), .int .i64 d]), (18, iv (21 + a + 3 * b)), (19, true, .agg #[.int .i64 a, .int .i64 b, .int .i64 (c : Int), .int .i64 d]), (20, iv (7 + a)), (21, iv (7 + a + 0)), (22, true, .agg #[.int .i64 a, .int .i64 b, .int .i64 (c : Int), .int .i64 d]), (23, iv (7 + a)), (24, iv (7 + a + 2)), (25, true, .agg #[.int .i64 a, .int .i64 b, .int .i64 (c : Int), .int .i64 d]), (26, iv (14 + a)), (27, iv (2 * (14 + a))), (1, pt b1 0), (5, pt ba 0)] (mapE kfZ vfZ bm ml :: [arB ba wv A0, arW wv c A0, .blk b1 (.cells #[.int .i64 a, .int .i64 b, .int .i64 (c : Int), .int .i64 d] 23)]) ([]) (G 3 (mF 17 [3, 15, 16])) := fun bm ml hml => by
  refine hnode _ _ _ _ [(3, [tt 15], 1, (mF 17 [16]))] (by kernel_rfl) kz ?_
  ·
   refine At.mapIns (kf := kfZ) (vf := vfZ) (ml := ml) (k := (((2 : Int), 21 + a + 3 * b)).1) (v := (((2 : Int), 21 + a + 3 * b)).2) rfl rfl Tryz.underlying107 (keyOk_int Tryz.underlying3) (.t rfl) .c (.t rfl) (.n U0) ⟨kz, ?_⟩
   refine W ?_
   exact wk (g1 bm (aput ml (((2 : Int), 21 + a + 3 * b)).1 (((2 : Int), 21 + a + 3 * b)).2) ((perm_put hml (by intro e he; (simp at he; rcases he with rfl | rfl <;> simp <;> omega))).trans (perm_yzx)))
 have g5 : ∀ (bm : Nat) (ml : List (Int × Int)) (hml : ml.Perm [((2 : Int), 21 + a + 3 * b)]), At w 40 [] [(16, true, .map (some bm)), (17, true, .agg #[.int .i64 a, .int .i64 b, .int .i64 (c : Int), .int .i64 d]), (18, iv (21 + a + 3 * b)), (19, true, .agg #[.int .i64 a, .int .i64 b, .int .i64 (c : Int), .int .i64 d]), (20, iv (7 + a)), (21, iv (7 + a + 0)), (22, true, .agg #[.int .i64 a, .int .i64 b, .int .i64 (c : Int), .int .i64 d]), (23, iv (7 + a)), (24, iv (7 + a + 2)), (25, true, .agg #[.int .i64 a, .int .i64 b, .int .i64 (c : Int), .int .i64 d]), (26, iv (14 + a)), (27, iv (2 * (14 + a))), (1, pt b1 0), (5, pt ba 0)] (mapE kfZ vfZ bm ml :: [arB ba wv A0, arW wv c A0, .blk b1 (.cells #[.int .i64 a, .int .i64 b, .int .i64 (c : Int), .int .i64 d] 23)]) ([]) (G 4 (mF 17 [7, 14, 15, 16])) := fun bm ml hml => by
  refine hnode _ _ _ _ [(7, [], 3, (mF 17 [14, 15, 16])), (14, [], 3, (mF 17 [7, 15, 16]))] (by kernel_rfl) kz ?_
  refine ⟨?_, ?_⟩
  ·
   refine At.mapIns (kf := kfZ) (vf := vfZ) (ml := ml) (k := ((7 + a + 0, (-1 : Int))).1) (v := ((7 + a + 0, (-1 : Int))).2) rfl rfl Tryz.underlying107 (keyOk_int Tryz.underlying3) (.t rfl) (.t rfl) .c (.n U0) ⟨kz, ?_⟩
   refine W ?_
   exact wk (g2 bm (aput ml ((7 + a + 0, (-1 : Int))).1 ((7 + a + 0, (-1 : Int))).2) ((perm_put hml (by intro e he; (simp at he; subst he; simp; omega))).trans (.refl _)))
  ·
   refine At.mapIns (kf := kfZ) (vf := vfZ) (ml := ml) (k := ((7 + a + 2, 2 * (14 + a))).1) (v := ((7 + a + 2, 2 * (14 + a))).2) rfl rfl Tryz.underlying107 (keyOk_int Tryz.underlying3) (.t rfl) (.t rfl) (.t rfl) (.n U0) ⟨kz, ?_⟩
   refine W ?_
   exact wk (g3 bm (aput ml ((7 + a + 2, 2 * (14 + a))).1 ((7 + a + 2, 2 * (14 + a))).2) ((perm_put hml (by intro e he; (simp at he; subst he; simp; omega))).trans (.refl _)))
 have g6 : ∀ (bm : Nat) (ml : List (Int × Int)) (hml : ml.Perm [(7 + a + 0, (-1 : Int))]), At w 40 [] [(16, true, .map (some bm)), (17, true, .agg #[.int .i64 a, .int .i64 b, .int .i64 (c : Int), .int .i64 d]), (18, iv (21 + a + 3 * b)), (19, true, .agg #[.int .i64 a, .int .i64 b, .int .i64 (c : Int), .int .i64 d]), (20, iv (7 + a)), (21, iv (7 + a + 0)), (22, true, .agg #[.int .i64 a, .int .i64 b, .int .i64 (c : Int), .int .i64 d]), (23, iv (7 + a)), (24, iv (7 + a + 2)), (25, true, .agg #[.int .i64 a, .int .i64 b, .int .i64 (c : Int), .int .i64 d]), (26, iv (14 + a)), (27, iv (2 * (14 + a))), (1, pt b1 0), (5, pt ba 0)] (mapE kfZ vfZ bm ml :: [arB ba wv A0, arW wv c A0, .blk b1 (.cells #[.int .i64 a, .int .i64 b, .int .i64 (c : Int), .int .i64 d] 23)]) ([]) (G 4 (mF 17 [3, 14, 15, 16])) := fun bm ml hml => by
  refine hnode _ _ _ _ [(3, [], 3, (mF 17 [14, 15, 16])), (14, [], 3, (mF 17 [3, 15, 16]))] (by kernel_rfl) kz ?_
  refine ⟨?_, ?_⟩
  ·
   refine At.mapIns (kf := kfZ) (vf := vfZ) (ml := ml) (k := (((2 : Int), 21 + a + 3 * b)).1) (v := (((2 : Int), 21 + a + 3 * b)).2) rfl rfl Tryz.underlying107 (keyOk_int Tryz.underlying3) (.t rfl) .c (.t rfl) (.n U0) ⟨kz, ?_⟩
   refine W ?_
   exact wk (g2 bm (aput ml (((2 : Int), 21 + a + 3 * b)).1 (((2 : Int), 21 + a + 3 * b)).2) ((perm_put hml (by intro e he; (simp at he; subst he; simp; omega))).trans (perm_xy)))
  ·
   refine At.mapIns (kf := kfZ) (vf := vfZ) (ml := ml) (k := ((7 + a + 2, 2 * (14 + a))).1) (v := ((7 + a + 2, 2 * (14 + a))).2) rfl rfl Tryz.underlying107 (keyOk_int Tryz.underlying3) (.t rfl) (.t rfl) (.t rfl) (.n U0) ⟨kz, ?_⟩
   refine W ?_
   exact wk (g4 bm (aput ml ((7 + a + 2, 2 * (14 + a))).1 ((7 + a + 2, 2 * (14 + a))).2) ((perm_put hml (by intro e he; (simp at he; subst he; simp; omega))).trans (.refl _)))
 have g7 : ∀ (bm : Nat) (ml : List (Int × Int)) (hml : ml.Perm [(7 + a + 2, 2 * (14 + a))]), At w 40 [] [(16, true, .map (some bm)), (17, true, .agg #[.int .i64 a, .int .i64 b, .int .i64 (c : Int), .int .i64 d]), (18, iv (21 + a + 3 * b)), (19, true, .agg #[.int .i64 a, .int .i64 b, .int .i64 (c : Int), .int .i64 d]), (20, iv (7 + a)), (21, iv (7 + a + 0)), (22, true, .agg #[.int .i64 a, .int .i64 b, .int .i64 (c : Int), .int .i64 d]), (23, iv (7 + a)), (24, iv (7 + a + 2)), (25, true, .agg #[.int .i64 a, .int .i64 b, .int .i64 (c : Int), .int .i64 d]), (26, iv (14 + a)), (27, iv (2 * (14 + a))), (1, pt b1 0), (5, pt ba 0)] (mapE kfZ vfZ bm ml :: [arB ba wv A0, arW wv c A0, .blk b1 (.cells #[.int .i64 a, .int .i64 b, .int .i64 (c : Int), .int .i64 d] 23)]) ([]) (G 4 (mF 17 [3, 7, 15, 16])) := fun bm ml hml => by
  refine hnode _ _ _ _ [(3, [], 3, (mF 17 [7, 15, 16])), (7, [], 3, (mF 17 [3, 15, 16]))] (by kernel_rfl) kz ?_
  refine ⟨?_, ?_⟩
  ·
   refine At.mapIns (kf := kfZ) (vf := vfZ) (ml := ml) (k := (((2 : Int), 21 + a + 3 * b)).1) (v := (((2 : Int), 21 + a + 3 * b)).2) rfl rfl Tryz.underlying107 (keyOk_int Tryz.underlying3) (.t rfl) .c (.t rfl) (.n U0) ⟨kz, ?_⟩
   refine W ?_
   exact wk (g3 bm (aput ml (((2 : Int), 21 + a + 3 * b)).1 (((2 : Int), 21 + a + 3 * b)).2) ((perm_put hml (by intro e he; (simp at he; subst he; simp; omega))).trans (perm_xy)))
  ·
   refine At.mapIns (kf := kfZ) (vf := vfZ) (ml := ml) (k := ((7 + a + 0, (-1 : Int))).1) (v := ((7 + a + 0, (-1 : Int))).2) rfl rfl Tryz.underlying107 (keyOk_int Tryz.underlying3) (.t rfl) (.t rfl) .c (.n U0) ⟨kz, ?_⟩
   refine W ?_
   exact wk (g4 bm (aput ml ((7 + a + 0, (-1 : Int))).1 ((7 + a + 0, (-1 : Int))).2) ((perm_put hml (by intro e he; (simp at he; subst he; simp; omega))).trans (perm_xy)))
 have g8 : ∀ (bm : Nat) (ml : List (Int × Int)) (hml : ml.Perm [((2 : Int), 21 + a + 3 * b), (7 + a + 0, (-1 : Int))]), At w 40 [] [(16, true, .map (some bm)), (17, true, .agg #[.int .i64 a, .int .i64 b, .int .i64 (c : Int), .int .i64 d]), (18, iv (21 + a + 3 * b)), (19, true, .agg #[.int .i64 a, .int .i64 b, .int .i64 (c : Int), .int .i64 d]), (20, iv (7 + a)), (21, iv (7 + a + 0)), (22, true, .agg #[.int .i64 a, .int .i64 b, .int .i64 (c : Int), .int .i64 d]), (23, iv (7 + a)), (24, iv (7 + a + 2)), (25, true, .agg #[.int .i64 a, .int .i64 b, .int .i64 (c : Int), .int .i64 d]), (1, pt b1 0), (5, pt ba 0)] (mapE kfZ vfZ bm ml :: [arB ba wv A0, arW wv c A0, .blk b1 (.cells #[.int .i64 a, .int .i64 b, .int .i64 (c : Int), .int .i64 d] 23)]) ([]) (G 5 (mF 17 [12, 13, 14, 15, 16])) := fun bm ml hml => by
  refine hnode _ _ _ _ [(12, [tt 13], 3, (mF 17 [14, 15, 16]))] (by kernel_rfl) kz ?_
  ·
   refine At.callVR rfl rfl rfl (.k rfl .nil) (.nil) (fun hg => p_First (by omega) (by omega)) kz ?_
   refine W ?_
   exact wk (g2 bm ml hml)
 have g9 : ∀ (bm : Nat) (ml : List (Int × Int)) (hml : ml.Perm []), At w 40 [] [(16, true, .map (some bm)), (17, true, .agg #[.int .i64 a, .int .i64 b, .int .i64 (c : Int), .int .i64 d]), (18, iv (21 + a + 3 * b)), (19, true, .agg #[.int .i64 a, .int .i64 b, .int .i64 (c : Int), .int .i64 d]), (20, iv (7 + a)), (21, iv (7 + a + 0)), (22, true, .agg #[.int .i64 a, .int .i64 b, .int .i64 (c : Int), .int .i64 d]), (23, iv (7 + a)), (24, iv (7 + a + 2)), (25, true, .agg #[.int .i64 a, .int .i64 b, .int .i64 (c : Int), .int .i64 d]), (26, iv (14 + a)), (27, iv (2 * (14 + a))), (1, pt b1 0), (5, pt ba 0)] (mapE kfZ vfZ bm ml :: [arB ba wv A0, arW wv c A0, .blk b1 (.cells #[.int .i64 a, .int .i64 b, .int .i64 (c : Int), .int .i64 d] 23)]) ([]) (G 5 (mF 17 [3, 7, 14, 15, 16])) := fun bm ml hml => by
  refine hnode _ _ _ _ [(3, [], 4, (mF 17 [7, 14, 15, 16])), (7, [], 4, (mF 17 [3, 14, 15, 16])), (14, [], 4, (mF 17 [3, 7, 15, 16]))] (by kernel_rfl) kz ?_
  refine ⟨?_, ?_, ?_⟩
  ·
   refine At.mapIns (kf := kfZ) (vf := vfZ) (ml := ml) (k := (((2 : Int), 21 + a + 3 * b)).1) (v := (((2 : Int), 21 + a + 3 * b)).2) rfl rfl Tryz.underlying107 (keyOk_int Tryz.underlying3) (.t rfl) .c (.t rfl) (.n U0) ⟨kz, ?_⟩
   refine W ?_
   exact wk (g5 bm (aput ml (((2 : Int), 21 + a + 3 * b)).1 (((2 : Int), 21 + a + 3 * b)).2) ((perm_put hml (by intro e he; (simp at he; done))).trans (.refl _)))
  ·
   refine At.mapIns (kf := kfZ) (vf := vfZ) (ml := ml) (k := ((7 + a + 0, (-1 : Int))).1) (v := ((7 + a + 0, (-1 : Int))).2) rfl rfl Tryz.underlying107 (keyOk_int Tryz.underlying3) (.t rfl) (.t rfl) .c (.n U0) ⟨kz, ?_⟩
   refine W ?_
   exact wk (g6 bm (aput ml ((7 + a + 0, (-1 : Int))).1 ((7 + a + 0, (-1 : Int))).2) ((perm_put hml (by intro e he; (simp at he; done))).trans (.refl _)))
  ·
   refine At.mapIns (kf := kfZ) (vf := vfZ) (ml := ml) (k := ((7 + a + 2, 2 * (14 + a))).1) (v := ((7 + a + 2, 2 * (14 + a))).2) rfl rfl Tryz.underlying107 (keyOk_int Tryz.underlying3) (.t rfl) (.t rfl) (.t rfl) (.n U0) ⟨kz, ?_⟩
   refine W ?_
   exact wk (g7 bm (aput ml ((7 + a + 2, 2 * (14 + a))).1 ((7 + a + 2, 2 * (14 + a))).2) ((perm_put hml (by intro e he; (simp at he; done))).trans (.refl _)))
 have g10 : ∀ (bm : Nat) (ml : List (Int × Int)) (hml : ml.Perm [((2 : Int), 21 + a + 3 * b)]), At w 40 [] [(16, true, .map (some bm)), (17, true, .agg #[.int .i64 a, .int .i64 b, .int .i64 (c : Int), .int .i64 d]), (18, iv (21 + a + 3 * b)), (19, true, .agg #[.int .i64 a, .int .i64 b, .int .i64 (c : Int), .int .i64 d]), (20, iv (7 + a)), (21, iv (7 + a + 0)), (22, true, .agg #[.int .i64 a, .int .i64 b, .int .i64 (c : Int), .int .i64 d]), (23, iv (7 + a)), (24, iv (7 + a + 2)), (25, true, .agg #[.int .i64 a, .int .i64 b, .int .i64 (c : Int), .int .i64 d]), (1, pt b1 0), (5, pt ba 0)] (mapE kfZ vfZ bm ml :: [arB ba wv A0, arW wv c A0, .blk b1 (.cells #[.int .i64 a, .int .i64 b, .int .i64 (c : Int), .int .i64 d] 23)]) ([]) (G 6 (mF 17 [7, 12, 13, 14, 15, 16])) := fun bm ml hml => by
  refine hnode _ _ _ _ [(7, [], 5, (mF 17 [12, 13, 14, 15, 16])), (12, [tt 13], 4, (mF 17 [7, 14, 15, 16]))] (by kernel_rfl) kz ?_
  refine ⟨?_, ?_⟩
  ·
   refine At.mapIns (kf := kfZ) (vf := vfZ) (ml := ml) (k := ((7 + a + 0, (-1 : Int))).1) (v := ((7 + a + 0, (-1 : Int))).2) rfl rfl Tryz.underlying107 (keyOk_int Tryz.underlying3) (.t rfl) (.t rfl) .c (.n U0) ⟨kz, ?_⟩
   refine W ?_
   exact wk (g8 bm (aput ml ((7 + a + 0, (-1 : Int))).1 ((7 + a + 0, (-1 : Int))).2) ((perm_put hml (by intro e he; (simp at he; subst he; simp; omega))).trans (.refl _)))
  ·
   refine At.callVR rfl rfl rfl (.k rfl .nil) (.nil) (fun hg => p_First (by omega) (by omega)) kz ?_
   refine W ?_
   exact wk (g5 bm ml hml)
 have g11 : ∀ (bm : Nat) (ml : List (Int × Int)) (hml : ml.Perm [(7 + a + 0, (-1 : Int))]), At w 40 [] [(16, true, .map (some bm)), (17, true, .agg #[.int .i64 a, .int .i64 b, .int .i64 (c : Int), .int .i64 d]), (18, iv (21 + a + 3 * b)), (19, true, .agg #[.int .i64 a, .int .i64 b, .int .i64 (c : Int), .int .i64 d]), (20, iv (7 + a)), (21, iv (7 + a + 0)), (22, true, .agg #[.int .i64 a, .int .i64 b, .int .i64 (c : Int), .int .i64 d]), (23, iv (7 + a)), (24, iv (7 + a + 2)), (25, true, .agg #[.int .i64 a, .int .i64 b, .int .i64 (c : Int), .int .i64 d]), (1, pt b1 0), (5, pt ba 0)] (mapE kfZ vfZ bm ml :: [arB ba wv A0, arW wv c A0, .blk b1 (.cells #[.int .i64 a, .int .i64 b, .int .i64 (c : Int), .int .i64 d] 23)]) ([]) (G 6 (mF 17 [3, 12, 13, 14, 15, 16])) := fun bm ml hml => by
  refine hnode _ _ _ _ [(3, [], 5, (mF 17 [12, 13, 14, 15, 16])), (12, [tt 13], 4, (mF 17 [3, 14, 15, 16]))] (by kernel_rfl) kz ?_
  refine ⟨?_, ?_⟩
  ·
   refine At.mapIns (kf := kfZ) (vf := vfZ) (ml := ml) (k := (((2 : Int), 21 + a + 3 * b)).1) (v := (((2 : Int), 21 + a + 3 * b)).2) rfl rfl Tryz.underlying107 (keyOk_int Tryz.underlying3) (.t rfl) .c (.t rfl) (.n U0) ⟨kz, ?_⟩
   refine W ?_
   exact wk (g8 bm (aput ml (((2 : Int), 21 + a + 3 * b)).1 (((2 : Int), 21 + a + 3 * b)).2) ((perm_put hml (by intro e he; (simp at he; subst he; simp; omega))).trans (perm_xy)))
  ·
   refine At.callVR rfl rfl rfl (.k rfl .nil) (.nil) (fun hg => p_First (by omega) (by omega)) kz ?_
   refine W ?_
   exact wk (g6 bm ml hml)
 have g12 : ∀ (_ : True), At w 40 [] [(17, true, .agg #[.int .i64 a, .int .i64 b, .int .i64 (c : Int), .int .i64 d]), (18, iv (21 + a + 3 * b)), (19, true, .agg #[.int .i64 a, .int .i64 b, .int .i64 (c : Int), .int .i64 d]), (20, iv (7 + a)), (21, iv (7 + a + 0)), (22, true, .agg #[.int .i64 a, .int .i64 b, .int .i64 (c : Int), .int .i64 d]), (23, iv (7 + a)), (24, iv (7 + a + 2)), (25, true, .agg #[.int .i64 a, .int .i64 b, .int .i64 (c : Int), .int .i64 d]), (26, iv (14 + a)), (27, iv (2 * (14 + a))), (1, pt b1 0), (5, pt ba 0)] ([arB ba wv A0, arW wv c A0, .blk b1 (.cells #[.int .i64 a, .int .i64 b, .int .i64 (c : Int), .int .i64 d] 23)]) ([]) (G 6 (mF 17 [0, 3, 7, 14, 15, 16])) := fun _ => by
  refine hnode _ _ _ _ [(0, [], 5, (mF 17 [3, 7, 14, 15, 16]))] (by kernel_rfl) kz ?_
  ·
   refine At.makeMap kfZ vfZ rfl rfl rfl (fun b2 hb2 => ⟨kz, ?_⟩)
   refine W ?_
   exact wk (g9 b2 [] (.refl _))
 have g13 : ∀ (bm : Nat) (ml : List (Int × Int)) (hml : ml.Perm [((2 : Int), 21 + a + 3 * b), (7 + a + 0, (-1 : Int))]), At w 40 [] [(16, true, .map (some bm)), (17, true, .agg #[.int .i64 a, .int .i64 b, .int .i64 (c : Int), .int .i64 d]), (18, iv (21 + a + 3 * b)), (19, true, .agg #[.int .i64 a, .int .i64 b, .int .i64 (c : Int), .int .i64 d]), (20, iv (7 + a)), (21, iv (7 + a + 0)), (22, true, .agg #[.int .i64 a, .int .i64 b, .int .i64 (c : Int), .int .i64 d]), (25, true, .agg #[.int .i64 a, .int .i64 b, .int .i64 (c : Int), .int .i64 d]), (1, pt b1 0), (5, pt ba 0)] (mapE kfZ vfZ bm ml :: [arB ba wv A0, arW wv c A0, .blk b1 (.cells #[.int .i64 a, .int .i64 b, .int .i64 (c : Int), .int .i64 d] 23)]) ([]) (G 7 (mF 17 [9, 10, 12, 13, 14, 15, 16])) := fun bm ml hml => by
  refine hnode _ _ _ _ [(9, [tt 10], 5, (mF 17 [12, 13, 14, 15, 16]))] (by kernel_rfl) kz ?_
  ·
   refine At.callVR rfl rfl rfl (.k rfl .nil) (.nil) (fun hg => p_Head (by omega) (by omega)) kz ?_
   refine W ?_
   exact wk (g8 bm ml hml)
 have g14 : ∀ (bm : Nat) (ml : List (Int × Int)) (hml : ml.Perm []), At w 40 [] [(16, true, .map (some bm)), (17, true, .agg #[.int .i64 a, .int .i64 b, .int .i64 (c : Int), .int .i64 d]), (18, iv (21 + a + 3 * b)), (19, true, .agg #[.int .i64 a, .int .i64 b, .int .i64 (c : Int), .int .i64 d]), (20, iv (7 + a)), (21, iv (7 + a + 0)), (22, true, .agg #[.int .i64 a, .int .i64 b, .int .i64 (c : Int), .int .i64 d]), (23, iv (7 + a)), (24, iv (7 + a + 2)), (25, true, .agg #[.int .i64 a, .int .i64 b, .int .i64 (c : Int), .int .i64 d]), (1, pt b1 0), (5, pt ba 0)] (mapE kfZ vfZ bm ml :: [arB ba wv A0, arW wv c A0, .blk b1 (.cells #[.int .i64 a, .int .i64 b, .int .i64 (c : Int), .int .i64 d] 23)]) ([]) (G 7 (mF 17 [3, 7, 12, 13, 14, 15, 16])) := fun bm ml hml => by
  refine hnode _ _ _ _ [(3, [], 6, (mF 17 [7, 12, 13, 14, 15, 16])), (7, [], 6, (mF 17 [3, 12, 13, 14, 15, 16])), (12, [tt 13], 5, (mF 17 [3, 7, 14, 15, 16]))] (by kernel_rfl) kz ?_
  refine ⟨?_, ?_, ?_⟩
  ·
   refine At.mapIns (kf := kfZ) (vf := vfZ) (ml := ml) (k := (((2 : Int), 21 + a + 3 * b)).1) (v := (((2 : Int), 21 + a + 3 * b)).2) rfl rfl Tryz.underlying107 (keyOk_int Tryz.underlying3) (.t rfl) .c (.t rfl) (.n U0) ⟨kz, ?_⟩
   refine W ?_
   exact wk (g10 bm (aput ml (((2 : Int), 21 + a + 3 * b)).1 (((2 : Int), 21 + a + 3 * b)).2) ((perm_put hml (by intro e he; (simp at he; done))).trans (.refl _)))
  ·
   refine At.mapIns (kf := kfZ) (vf := vfZ) (ml := ml) (k := ((7 + a + 0, (-1 : Int))).1) (v := ((7 + a + 0, (-1 : Int))).2) rfl rfl Tryz.underlying107 (keyOk_int Tryz.underlying3) (.t rfl) (.t rfl) .c (.n U0) ⟨kz, ?_⟩
   refine W ?_
   exact wk (g11 bm (aput ml ((7 + a + 0, (-1 : Int))).1 ((7 + a + 0, (-1 : Int))).2) ((perm_put hml (by intro e he; (simp at he; done))).trans (.refl _)))
  ·
   refine At.callVR rfl rfl rfl (.k rfl .nil) (.nil) (fun hg => p_First (by omega) (by omega)) kz ?_
   refine W ?_
   exact wk (g9 bm ml hml)
 have g15 : ∀ (bm : Nat) (ml : List (Int × Int)) (hml : ml.Perm [((2 : Int), 21 + a + 3 * b)]), At w 40 [] [(16, true, .map (some bm)), (17, true, .agg #[.int .i64 a, .int .i64 b, .int .i64 (c : Int), .int .i64 d]), (18, iv (21 + a + 3 * b)), (19, true, .agg #[.int .i64 a, .int .i64 b, .int .i64 (c : Int), .int .i64 d]), (20, iv (7 + a)), (21, iv (7 + a + 0)), (22, true, .agg #[.int .i64 a, .int .i64 b, .int .i64 (c : Int), .int .i64 d]), (25, true, .agg #[.int .i64 a, .int .i64 b, .int .i64 (c : Int), .int .i64 d]), (1, pt b1 0), (5, pt ba 0)] (mapE kfZ vfZ bm ml :: [arB ba wv A0, arW wv c A0, .blk b1 (.cells #[.int .i64 a, .int .i64 b, .int .i64 (c : Int), .int .i64 d] 23)]) ([]) (G 8 (mF 17 [7, 9, 10, 12, 13, 14, 15, 16])) := fun bm ml hml => by
  refine hnode _ _ _ _ [(7, [], 7, (mF 17 [9, 10, 12, 13, 14, 15, 16])), (9, [tt 10], 6, (mF 17 [7, 12, 13, 14, 15, 16]))] (by kernel_rfl) kz ?_
  refine ⟨?_, ?_⟩
  ·
   refine At.mapIns (kf := kfZ) (vf := vfZ) (ml := ml) (k := ((7 + a + 0, (-1 : Int))).1) (v := ((7 + a + 0, (-1 : Int))).2) rfl rfl Tryz.underlying107 (keyOk_int Tryz.underlying3) (.t rfl) (.t rfl) .c (.n U0) ⟨kz, ?_⟩
   refine W ?_
   exact wk (g13 bm (aput ml ((7 + a + 0, (-1 : Int))).1 ((7 + a + 0, (-1 : Int))).2) ((perm_put hml (by intro e he; (simp at he; subst he; simp; omega))).trans (.refl _)))
  ·
   refine At.callVR rfl rfl rfl (.k rfl .nil) (.nil) (fun hg => p_Head (by omega) (by omega)) kz ?_
   refine W ?_
   exact wk (g10 bm ml hml)
 have g16 : ∀ (bm : Nat) (ml : List (Int × Int)) (hml : ml.Perm [(7 + a + 0, (-1 : Int))]), At w 40 [] [(16, true, .map (some bm)), (17, true, .agg #[.int .i64 a, .int .i64 b, .int .i64 (c : Int), .int .i64 d]), (18, iv (21 + a + 3 * b)), (19, true, .agg #[.int .i64 a, .int .i64 b, .int .i64 (c : Int), .int .i64 d]), (20, iv (7 + a)), (21, iv (7 + a + 0)), (22, true, .agg #[.int .i64 a, .int .i64 b, .int .i64 (c : Int), .int .i64 d]), (25, true, .agg #[.int .i64 a, .int .i64 b, .int .i64 (c : Int), .int .i64 d]), (1, pt b1 0), (5, pt ba 0)] (mapE kfZ vfZ bm ml :: [arB ba wv A0, arW wv c A0, .blk b1 (.cells #[.int .i64 a, .int .i64 b, .int .i64 (c : Int), .int .i64 d] 23)]) ([]) (G 8 (mF 17 [3, 9, 10, 12, 13, 14, 15, 16])) := fun bm ml hml => by
  refine hnode _ _ _ _ [(3, [], 7, (mF 17 [9, 10, 12, 13, 14, 15, 16])), (9, [tt 10], 6, (mF 17 [3, 12, 13, 14, 15, 16]))] (by kernel_rfl) kz ?_
  refine ⟨?_, ?_⟩
  ·
   refine At.mapIns (kf := kfZ) (vf := vfZ) (ml := ml) (k := (((2 : Int), 21 + a + 3 * b)).1) (v := (((2 : Int), 21 + a + 3 * b)).2) rfl rfl Tryz.underlying107 (keyOk_int Tryz.underlying3) (.t rfl) .c (.t rfl) (.n U0) ⟨kz, ?_⟩
   refine W ?_
   exact wk (g13 bm (aput ml (((2 : Int), 21 + a + 3 * b)).1 (((2 : Int), 21 + a + 3 * b)).2) ((perm_put hml (by intro e he; (simp at he; subst he; simp; omega))).trans (perm_xy)))
  ·
   refine At.callVR rfl rfl rfl (.k rfl .nil) (.nil) (fun hg => p_Head (by omega) (by omega)) kz ?_
   refine W ?_
   exact wk (g11 bm ml hml)
 have g17 : ∀ (_ : True), At w 40 [] [(17, true, .agg #[.int .i64 a, .int .i64 b, .int .i64 (c : Int), .int .i64 d]), (18, iv (21 + a + 3 * b)), (19, true, .agg #[.int .i64 a, .int .i64 b, .int .i64 (c : Int), .int .i64 d]), (20, iv (7 + a)), (21, iv (7 + a + 0)), (22, true, .agg #[.int .i64 a, .int .i64 b, .int .i64 (c : Int), .int .i64 d]), (23, iv (7 + a)), (24, iv (7 + a + 2)), (25, true, .agg #[.int .i64 a, .int .i64 b, .int .i64 (c : Int), .int .i64 d]), (1, pt b1 0), (5, pt ba 0)] ([arB ba wv A0, arW wv c A0, .blk b1 (.cells #[.int .i64 a, .int .i64 b, .int .i64 (c : Int), .int .i64 d] 23)]) ([]) (G 8 (mF 17 [0, 3, 7, 12, 13, 14, 15, 16])) := fun _ => by
  refine hnode _ _ _ _ [(0, [], 7, (mF 17 [3, 7, 12, 13, 14, 15, 16])), (12, [tt 13], 6, (mF 17 [0, 3, 7, 14, 15, 16]))] (by kernel_rfl) kz ?_
  refine ⟨?_, ?_⟩
  ·
   refine At.makeMap kfZ vfZ rfl rfl rfl (fun b2 hb2 => ⟨kz, ?_⟩)
   refine W ?_
   exact wk (g14 b2 [] (.refl _))
  ·
   refine At.callVR rfl rfl rfl (.k rfl .nil) (.nil) (fun hg => p_First (by omega) (by omega)) kz ?_
   refine W ?_
   exact wk (g12 trivial)
 have g18 : ∀ (bm : Nat) (ml : List (Int × Int)) (hml : ml.Perm []), At w 40 [] [(16, true, .map (some bm)), (17, true, .agg #[.int .i64 a, .int .i64 b, .int .i64 (c : Int), .int .i64 d]), (18, iv (21 + a + 3 * b)), (19, true, .agg #[.int .i64 a, .int .i64 b, .int .i64 (c : Int), .int .i64 d]), (20, iv (7 + a)), (21, iv (7 + a + 0)), (22, true, .agg #[.int .i64 a, .int .i64 b, .int .i64 (c : Int), .int .i64 d]), (25, true, .agg #[.int .i64 a, .int .i64 b, .int .i64 (c : Int), .int .i64 d]), (1, pt b1 0), (5, pt ba 0)] (mapE kfZ vfZ bm ml :: [arB ba wv A0, arW wv c A0, .blk b1 (.cells #[.int .i64 a, .int .i64 b, .int .i64 (c : Int), .int .i64 d] 23)]) ([]) (G 9 (mT 17 [0, 1, 2, 4, 5, 6, 8, 11])) := fun bm ml hml => by
  refine hnode _ _ _ _ [(3, [], 8, (mF 17 [7, 9, 10, 12, 13, 14, 15, 16])), (7, [], 8, (mF 17 [3, 9, 10, 12, 13, 14, 15, 16])), (9, [tt 10], 7, (mF 17 [3, 7, 12, 13, 14, 15, 16]))] (by kernel_rfl) kz ?_
  refine ⟨?_, ?_, ?_⟩
  ·
   refine At.mapIns (kf := kfZ) (vf := vfZ) (ml := ml) (k := (((2 : Int), 21 + a + 3 * b)).1) (v := (((2 : Int), 21 + a + 3 * b)).2) rfl rfl Tryz.underlying107 (keyOk_int Tryz.underlying3) (.t rfl) .c (.t rfl) (.n U0) ⟨kz, ?_⟩
   refine W ?_
   exact wk (g15 bm (aput ml (((2 : Int), 21 + a + 3 * b)).1 (((2 : Int), 21 + a + 3 * b)).2) ((perm_put hml (by intro e he; (simp at he; done))).trans (.refl _)))
  ·
   refine At.mapIns (kf := kfZ) (vf := vfZ) (ml := ml) (k := ((7 + a + 0, (-1 : Int))).1) (v := ((7 + a + 0, (-1 : Int))).2) rfl rfl Tryz.underlying107 (keyOk_int Tryz.underlying3) (.t rfl) (.t rfl) .c (.n U0) ⟨kz, ?_⟩
   refine W ?_
   exact wk (g16 bm (aput ml ((7 + a + 0, (-1 : Int))).1 ((7 + a + 0, (-1 : Int))).2) ((perm_put hml (by intro e he; (simp at he; done))).trans (.refl _)))
  ·
   refine At.callVR rfl rfl rfl (.k rfl .nil) (.nil) (fun hg => p_Head (by omega) (by omega)) kz ?_
   refine W ?_
   exact wk (g14 bm ml hml)
 have g19 : ∀ (bm : Nat) (ml : List (Int × Int)) (hml : ml.Perm [((2 : Int), 21 + a + 3 * b)]), At w 40 [] [(16, true, .map (some bm)), (17, true, .agg #[.int .i64 a, .int .i64 b, .int .i64 (c : Int), .int .i64 d]), (18, iv (21 + a + 3 * b)), (19, true, .agg #[.int .i64 a, .int .i64 b, .int .i64 (c : Int), .int .i64 d]), (22, true, .agg #[.int .i64 a, .int .i64 b, .int .i64 (c : Int), .int .i64 d]), (25, true, .agg #[.int .i64 a, .int .i64 b, .int .i64 (c : Int), .int .i64 d]), (1, pt b1 0), (5, pt ba 0)] (mapE kfZ vfZ bm ml :: [arB ba wv A0, arW wv c A0, .blk b1 (.cells #[.int .i64 a, .int .i64 b, .int .i64 (c : Int), .int .i64 d] 23)]) ([]) (G 10 (mT 17 [0, 1, 2, 3, 4, 8, 11])) := fun bm ml hml => by
  refine hnode _ _ _ _ [(5, [tt 6], 8, (mF 17 [7, 9, 10, 12, 13, 14, 15, 16]))] (by kernel_rfl) kz ?_
  ·
   refine At.callVR rfl rfl rfl (.k rfl .nil) (.nil) (fun hg => p_Head (by omega) (by omega)) kz ?_
   refine W ?_
   exact wk (g15 bm ml hml)
 have g20 : ∀ (_ : True), At w 40 [] [(17, true, .agg #[.int .i64 a, .int .i64 b, .int .i64 (c : Int), .int .i64 d]), (18, iv (21 + a + 3 * b)), (19, true, .agg #[.int .i64 a, .int .i64 b, .int .i64 (c : Int), .int .i64 d]), (20, iv (7 + a)), (21, iv (7 + a + 0)), (22, true, .agg #[.int .i64 a, .int .i64 b, .int .i64 (c : Int), .int .i64 d]), (25, true, .agg #[.int .i64 a, .int .i64 b, .int .i64 (c : Int), .int .i64 d]), (1, pt b1 0), (5, pt ba 0)] ([arB ba wv A0, arW wv c A0, .blk b1 (.cells #[.int .i64 a, .int .i64 b, .int .i64 (c : Int), .int .i64 d] 23)]) ([]) (G 10 (mT 17 [1, 2, 4, 5, 6, 8, 11])) := fun _ => by
  refine hnode _ _ _ _ [(0, [], 9, (mT 17 [0, 1, 2, 4, 5, 6, 8, 11])), (9, [tt 10], 8, (mF 17 [0, 3, 7, 12, 13, 14, 15, 16]))] (by kernel_rfl) kz ?_
  refine ⟨?_, ?_⟩
  ·
   refine At.makeMap kfZ vfZ rfl rfl rfl (fun b2 hb2 => ⟨kz, ?_⟩)
   refine W ?_
   exact wk (g18 b2 [] (.refl _))
  ·
   refine At.callVR rfl rfl rfl (.k rfl .nil) (.nil) (fun hg => p_Head (by omega) (by omega)) kz ?_
   refine W ?_
   exact wk (g17 trivial)
 have g21 : ∀ (bm : Nat) (ml : List (Int × Int)) (hml : ml.Perm []), At w 40 [] [(16, true, .map (some bm)), (17, true, .agg #[.int .i64 a, .int .i64 b, .int .i64 (c : Int), .int .i64 d]), (18, iv (21 + a + 3 * b)), (19, true, .agg #[.int .i64 a, .int .i64 b, .int .i64 (c : Int), .int .i64 d]), (22, true, .agg #[.int .i64 a, .int .i64 b, .int .i64 (c : Int), .int .i64 d]), (25, true, .agg #[.int .i64 a, .int .i64 b, .int .i64 (c : Int), .int .i64 d]), (1, pt b1 0), (5, pt ba 0)] (mapE kfZ vfZ bm ml :: [arB ba wv A0, arW wv c A0, .blk b1 (.cells #[.int .i64 a, .int .i64 b, .int .i64 (c : Int), .int .i64 d] 23)]) ([]) (G 11 (mT 17 [0, 1, 2, 4, 8, 11])) := fun bm ml hml => by
  refine hnode _ _ _ _ [(3, [], 10, (mT 17 [0, 1, 2, 3, 4, 8, 11])), (5, [tt 6], 9, (mT 17 [0, 1, 2, 4, 5, 6, 8, 11]))] (by kernel_rfl) kz ?_
  refine ⟨?_, ?_⟩
  ·
   refine At.mapIns (kf := kfZ) (vf := vfZ) (ml := ml) (k := (((2 : Int), 21 + a + 3 * b)).1) (v := (((2 : Int), 21 + a + 3 * b)).2) rfl rfl Tryz.underlying107 (keyOk_int Tryz.underlying3) (.t rfl) .c (.t rfl) (.n U0) ⟨kz, ?_⟩
   refine W ?_
   exact wk (g19 bm (aput ml (((2 : Int), 21 + a + 3 * b)).1 (((2 : Int), 21 + a + 3 * b)).2) ((perm_put hml (by intro e he; (simp at he; done))).trans (.refl _)))
  ·
   refine At.callVR rfl rfl rfl (.k rfl .nil) (.nil) (fun hg => p_Head (by omega) (by omega)) kz ?_
   refine W ?_
   exact wk (g18 bm ml hml)
 have g22 : ∀ (bm : Nat) (ml : List (Int × Int)) (hml : ml.Perm []), At w 40 [] [(16, true, .map (some bm)), (17, true, .agg #[.int .i64 a, .int .i64 b, .int .i64 (c : Int), .int .i64 d]), (19, true, .agg #[.int .i64 a, .int .i64 b, .int .i64 (c : Int), .int .i64 d]), (22, true, .agg #[.int .i64 a, .int .i64 b, .int .i64 (c : Int), .int .i64 d]), (25, true, .agg #[.int .i64 a, .int .i64 b, .int .i64 (c : Int), .int .i64 d]), (1, pt b1 0), (5, pt ba 0)] (mapE kfZ vfZ bm ml :: [arB ba wv A0, arW wv c A0, .blk b1 (.cells #[.int .i64 a, .int .i64 b, .int .i64 (c : Int), .int .i64 d] 23)]) ([]) (G 12 (mT 17 [0, 1, 4, 8, 11])) := fun bm ml hml => by
  refine hnode _ _ _ _ [(2, [], 11, (mT 17 [0, 1, 2, 4, 8, 11]))] (by kernel_rfl) kz ?_
  ·
   refine At.callVR rfl rfl rfl (.k rfl .nil) (.nil) (fun hg => p_Top (by omega) (by omega) (by omega) (by omega)) kz ?_
   refine W ?_
   exact wk (g21 bm ml hml)
 have g23 : ∀ (_ : True), At w 40 [] [(17, true, .agg #[.int .i64 a, .int .i64 b, .int .i64 (c : Int), .int .i64 d]), (18, iv (21 + a + 3 * b)), (19, true, .agg #[.int .i64 a, .int .i64 b, .int .i64 (c : Int), .int .i64 d]), (22, true, .agg #[.int .i64 a, .int .i64 b, .int .i64 (c : Int), .int .i64 d]), (25, true, .agg #[.int .i64 a, .int .i64 b, .int .i64 (c : Int), .int .i64 d]), (1, pt b1 0), (5, pt ba 0)] ([arB ba wv A0, arW wv c A0, .blk b1 (.cells #[.int .i64 a, .int .i64 b, .int .i64 (c : Int), .int .i64 d] 23)]) ([]) (G 12 (mT 17 [1, 2, 4, 8, 11])) := fun _ => by
  refine hnode _ _ _ _ [(0, [], 11, (mT 17 [0, 1, 2, 4, 8, 11])), (5, [tt 6], 10, (mT 17 [1, 2, 4, 5, 6, 8, 11]))] (by kernel_rfl) kz ?_
  refine ⟨?_, ?_⟩
  ·
   refine At.makeMap kfZ vfZ rfl rfl rfl (fun b2 hb2 => ⟨kz, ?_⟩)
   refine W ?_
   exact wk (g21 b2 [] (.refl _))
  ·
   refine At.callVR rfl rfl rfl (.k rfl .nil) (.nil) (fun hg => p_Head (by omega) (by omega)) kz ?_
   refine W ?_
   exact wk (g20 trivial)
 have g24 : ∀ (_ : True), At w 40 [] [(17, true, .agg #[.int .i64 a, .int .i64 b, .int .i64 (c : Int), .int .i64 d]), (19, true, .agg #[.int .i64 a, .int .i64 b, .int .i64 (c : Int), .int .i64 d]), (22, true, .agg #[.int .i64 a, .int .i64 b, .int .i64 (c : Int), .int .i64 d]), (25, true, .agg #[.int .i64 a, .int .i64 b, .int .i64 (c : Int), .int .i64 d]), (1, pt b1 0), (5, pt ba 0)] ([arB ba wv A0, arW wv c A0, .blk b1 (.cells #[.int .i64 a, .int .i64 b, .int .i64 (c : Int), .int .i64 d] 23)]) ([]) (G 13 (mT 17 [1, 4, 8, 11])) := fun _ => by
  refine hnode _ _ _ _ [(0, [], 12, (mT 17 [0, 1, 4, 8, 11])), (2, [], 12, (mT 17 [1, 2, 4, 8, 11]))] (by kernel_rfl) kz ?_
  refine ⟨?_, ?_⟩
  ·
   refine At.makeMap kfZ vfZ rfl rfl rfl (fun b2 hb2 => ⟨kz, ?_⟩)
   refine W ?_
   exact wk (g22 b2 [] (.refl _))
  ·
   refine At.callVR rfl rfl rfl (.k rfl .nil) (.nil) (fun hg => p_Top (by omega) (by omega) (by omega) (by omega)) kz ?_
   refine W ?_
   exact wk (g23 trivial)
 refine W ?_
 exact wk (g24 trivial)
end Go.Proofs.YtbolanigdkgbdaaGreat
namespace Go.Proofs.YtbolanigdkgbdaaGreat
open Go Go.RowKit
set_option maxRecDepth 10000
set_option linter.unusedVariables false
def k11A : Ar := ((((mkA 1 3 100).poke 16 2).poke 25 1).poke 26 9).poke 27 5
def k11X : Lk := ⟨1, 3, 100, 1000, 15, 0, 63, 100, 1, 0, -1, 0, 0, 0, []⟩
def k11 : Nat → Lk × Ar
  | 0 => (k11X, k11A)
  | n + 1 => (k11 n).1.step (k11 n).2
theorem k11_line : ∀ n : Fin 8, ((k11 (n.1 + 1)).1.line = 0 ↔ n.1 = 7) := by decide +kernel
theorem k11_okB : ∀ n : Fin 8, (-1000000 ≤ (k11 n.1).1.chunk ∧ (k11 n.1).1.chunk ≤ 1000000) ∧ (-1 ≤ (k11 n.1).1.i ∧ (k11 n.1).1.i ≤ 100000) ∧ (-9223372036854775808 ≤ (k11 n.1).1.state ∧ (k11 n.1).1.state ≤ 9223372036854775807) := by decide +kernel
theorem k11_few : ∀ n : Fin 8, (k11 n.1).2.few := by unfold Ar.few; decide +kernel
theorem k11_word : ∀ n : Fin 8, (k11 n.1).2.word := by unfold Ar.word; decide +kernel
theorem k11_len : ∀ n : Fin 9, (k11 n.1).2.w.length = 100 := by decide +kernel
theorem k11_ml : (k11 8).1.ml.length = 1 ∧ aget (k11 8).1.ml 9 = some ⟨9, 0, 5⟩ ∧ (k11 8).1.ml.map (·.1) = [9] ∧ (k11 8).2.peek 25 = 3 := by decide +kernel
theorem st25 : Fn Tryz.prog 38 [.int .i64 15, .int .i64 1] [] [] (IsV (.int .i64 25)) := p_State (s := 15) (i := 1) (by omega) (by omega)
theorem k11_items {ml : List (Int × Itm)} {ys : List Int} {zs : List Itm} (hm : ml.length = 1 ∧ aget ml 9 = some ⟨9, 0, 5⟩ ∧ ml.map (·.1) = [9]) (h1 : ys.Perm (ml.map (·.1))) (h2 : zs = ys.map fun k => (aget ml k).getD default) : zs = [⟨9, 0, 5⟩] := by
  rw [hm.2.2] at h1
  rw [h2, List.perm_singleton.1 h1, List.map_cons, hm.2.1]; rfl
theorem k11_facts : ∃ ks : Nat → Lk × Ar, ks 0 = (k11X, k11A) ∧ (∀ n, ks (n + 1) = (ks n).1.step (ks n).2) ∧ (∀ n : Fin 8, (-1000000 ≤ (ks n.1).1.chunk ∧ (ks n.1).1.chunk ≤ 1000000) ∧ (-1 ≤ (ks n.1).1.i ∧ (ks n.1).1.i ≤ 100000) ∧ (-9223372036854775808 ≤ (ks n.1).1.state ∧ (ks n.1).1.state ≤ 9223372036854775807)) ∧
    (∀ n : Fin 8, ((ks (n.1 + 1)).1.line = 0 ↔ n.1 = 7)) ∧ (∀ n : Fin 8, (ks n.1).2.few) ∧ (∀ n : Fin 8, (ks n.1).2.word) ∧ (∀ n : Fin 9, (ks n.1).2.w.length = 100) ∧ ((ks 8).1.ml.length = 1 ∧ aget (ks 8).1.ml 9 = some ⟨9, 0, 5⟩ ∧ (ks 8).1.ml.map (·.1) = [9]) ∧ (ks 8).2.peek 25 = 3 :=
  ⟨k11, rfl, fun _ => rfl, k11_okB, k11_line, k11_few, k11_word, k11_len, ⟨k11_ml.1, k11_ml.2.1, k11_ml.2.2.1⟩, k11_ml.2.2.2⟩
theorem c_known11  : Fn Tryz.prog 7 [] ([]) ([]) (IsV (.bool true)) := by
 refine Fn.enter Tryz.func7 (by kernel_rfl) rfl (n := 78) rfl rfl (fun w => ?_)
 obtain ⟨ks, hk0, hks, hok8, hli8, hfw, hwd, hln, hml, hpk⟩ := k11_facts
 refine W ?_
 refine At.callVR rfl rfl rfl (.kc (.cons .c (.kc .nil))) (.nil) (fun hg => h_Conf) .all ?_
 refine At.alloc rfl rfl rfl ze_23 (fun b1 hb1 => ⟨.all, ?_⟩)
 refine At.stN rfl rfl sz_23 (.t rfl) (.t rfl) rfl rfl rfl (.n U0) ⟨.all, ?_⟩
 refine W ?_
 refine At.callP (fst := []) (cap := []) rfl rfl rfl Ev.f (.k rfl .nil) rfl (p_Make (a := 1) (b := 3) (c := 100) (d := 1000) (by unfold okC; decide)) (fun _ h => nomatch h) (fun v N1 H1 hR => ?_); obtain ⟨ba, wv, xa, hxa, rfl, rfl, rfl⟩ := hR; refine ⟨rfl, .all, ?_⟩
 refine W ?_
 refine eA rfl (R.neqNilI Tryz.underlying70 (.t rfl)) ?_
 refine W ?_
 refine eA rfl (R.eqlNilP Tryz.underlying33 (.t rfl)) ?_
 refine W ?_
 refine At.callVR rfl rfl rfl (.k rfl .nil) (.nil) (fun hg => p_First (by omega) (by omega)) .all ?_
 refine eA rfl (R.as (R.assign (.t rfl)) (fun _ => (rfl : Value.int .i64 _ = .int .i64 15))) ?_
 refine U ?_
 refine eA rfl (R.as (R.addI (.t rfl) .c gO) (fun _ => (rfl : Value.int .i64 _ = .int .i64 16))) ?_
 refine At.callM (fst := []) (cap := []) rfl rfl rfl Ev.f (.k rfl (.k rfl (.kc .nil))) rfl (.n (.take (.take .nil))) .nil (a_Poke (n := 100) (a := xa) (by (rw [hxa]; decide +kernel)) (by omega)) rfl .nil ⟨.all, ?_⟩
 refine W ?_
 refine At.callVR rfl rfl rfl (.k rfl (.kc .nil)) (.nil) (fun hg => st25) .all ?_
 refine At.callM (fst := []) (cap := []) rfl rfl rfl Ev.f (.k rfl (.k rfl (.kc .nil))) rfl (.n (.take (.take .nil))) .nil (a_Poke (n := 100) (a := (xa.poke 16 2)) (by (simp only [Ar.poke_len]; rw [hxa]; decide +kernel)) (by omega)) rfl .nil ⟨.all, ?_⟩
 refine W ?_
 refine At.callVR rfl rfl rfl (.k rfl (.kc .nil)) (.nil) (fun hg => st25) .all ?_
 refine eA rfl (R.as (R.addI (.t rfl) .c gO) (fun _ => (rfl : Value.int .i64 _ = .int .i64 26))) ?_
 refine At.callM (fst := []) (cap := []) rfl rfl rfl Ev.f (.k rfl (.k rfl (.kc .nil))) rfl (.n (.take (.take .nil))) .nil (a_Poke (n := 100) (a := ((xa.poke 16 2).poke 25 1)) (by (simp only [Ar.poke_len]; rw [hxa]; decide +kernel)) (by omega)) rfl .nil ⟨.all, ?_⟩
 refine W ?_
 refine At.callVR rfl rfl rfl (.k rfl (.kc .nil)) (.nil) (fun hg => st25) .all ?_
 refine eA rfl (R.as (R.addI (.t rfl) .c gO) (fun _ => (rfl : Value.int .i64 _ = .int .i64 27))) ?_
 refine At.callM (fst := []) (cap := []) rfl rfl rfl Ev.f (.k rfl (.k rfl (.kc .nil))) rfl (.n (.take (.take .nil))) .nil (a_Poke (n := 100) (a := (((xa.poke 16 2).poke 25 1).poke 26 9)) (by (simp only [Ar.poke_len]; rw [hxa]; decide +kernel)) (by omega)) rfl .nil ⟨.all, ?_⟩
 refine W ?_
 refine At.callP (fst := []) (cap := []) rfl rfl rfl Ev.f (.k rfl (.k rfl (.kc (.cons .c (.kc .nil))))) rfl (k_New (a := 1) (b := 3) (c := 100) (d := 1000) (chunk := 15) (lo := 0) (hi := 63) (most := 100)) (fun _ h => nomatch h) (fun v N1 H1 hR => ?_); obtain ⟨bl, bm, rfl, rfl, rfl⟩ := hR; refine ⟨rfl, .all, ?_⟩
 refine W ?_
 refine eA rfl (R.eqlNilP Tryz.underlying37 (.t rfl)) ?_
 refine W ?_
 refine At.weak (fun _ _ h => h) (N' := [lkB bl bm k11X, lkM bm k11X, arB ba wv ((((xa.poke 16 2).poke 25 1).poke 26 9).poke 27 5), arW wv 100 ((((xa.poke 16 2).poke 25 1).poke 26 9).poke 27 5)]) sl ?_
 refine At.re (N' := [lkB bl bm (ks 0).1, lkM bm (ks 0).1, arB ba wv (ks 0).2, arW wv 100 (ks 0).2]) (by rw [hk0, hxa]; rfl) ?_
 refine At.loop1 (fun (n : Nat) => n ≤ 7) (fun (n : Nat) => 7 - n) (fun (n : Nat) => [(2, true, .pointer (some ⟨ba, 0, none⟩)), (4, true, .int .i64 15), (5, true, .pointer (some ⟨bl, 0, none⟩)), (6, true, .int .i64 n)]) (fun (n : Nat) => [lkB bl bm (ks n).1, lkM bm (ks n).1, arB ba wv (ks n).2, arW wv 100 (ks n).2]) (fun (n : Nat) => []) (0) (Nat.zero_le _) (.cons rfl (.cons rfl (.cons rfl (.cons rfl .nil)))) (List.Sublist.refl _) rfl (fun n hi => ?_)
 have hok := hok8 ⟨n, by omega⟩; have hli := hli8 ⟨n, by omega⟩; dsimp only at hli; rw [hks] at hli
 refine W ?_
 refine eA rfl (R.as (R.lss (.t rfl) .c) dT) ?_
 refine W ?_
 refine At.callM (fst := []) (cap := []) rfl rfl rfl Ev.f (.k rfl (.k rfl .nil)) rfl (.n (.take (.take (.take (.take .nil))))) .nil (k_Step (x := (ks n).1) (a := (ks n).2) (n := 100) ⟨hok.1, hok.2.1, hok.2.2⟩ (hln ⟨n, by omega⟩) (by omega) (hfw ⟨n, by omega⟩) (hwd ⟨n, by omega⟩)) rfl .nil ⟨.all, ?_⟩
 refine eA rfl (R.not (.t rfl)) ?_
 refine W ?_
 refine At.condN (.t rfl) (fun c3 => ?_) (fun c3 => ?_)
 ·
  have hn7 : n ≠ 7 := fun e => (by have := hli.2 e; simp [this] at c3)
  refine W ?_
  refine At.re (N' := [lkB bl bm (ks (n + 1)).1, lkM bm (ks (n + 1)).1, arB ba wv (ks (n + 1)).2, arW wv 100 (ks (n + 1)).2]) (by rw [hks]) ?_
  refine W ?_
  exact At.again1 (n + 1) (by omega) (by omega) (.cons rfl (.cons rfl (.cons rfl (.cons rfl .nil)))) (List.Sublist.refl _) rfl
 ·
  have hn7 : n = 7 := hli.1 (by simpa using c3); subst hn7; refine At.weak (fun _ _ h => h) (N' := [lkB bl bm (ks 8).1, lkM bm (ks 8).1, arB ba wv (ks 8).2, arW wv 100 (ks 8).2]) (by rw [show (ks 8) = (ks 7).1.step (ks 7).2 from hks 7]; exact (List.Sublist.refl _)) ?_
  refine W ?_
  refine At.callP (fst := []) (cap := []) rfl rfl rfl Ev.f (.k rfl .nil) rfl (k_Items (b := bl) (bm := bm) (x := (ks 8).1) (by rw [hml.1]; omega)) (Rds.blk (.st M0) (Rds.blk (.st M1) .nil)).all (fun vi N1 H1 hR => ?_); obtain ⟨zs, ⟨ys, hy1, hy2, hy3⟩, rfl, rfl⟩ := hR; have hzs : zs = [⟨9, 0, 5⟩] := k11_items hml hy1 hy3; have hzl : zs.length = 1 := (by rw [hzs]; rfl); have hz0 : gE zs 0 = ⟨9, 0, 5⟩ := (by rw [hzs]; rfl); refine ⟨rfl, .all, ?_⟩
  refine Y ?_
  refine eA rfl (R.loadRdAgg (us := iK.enc _) Tryz.underlying43 rfl sz_43 (.t rfl) (wS M0) gO (fun hg => by exact Ek.getA (by omega))) ?_
  refine eA rfl (R.as (R.build bt_43 (.kc (.cons .c (.kc .nil))) (.cons rfl (.cons rfl (.cons rfl .nil))) rfl) (fun _ => (rfl : Value.agg _ = .agg (iK.enc (⟨9, 0, 5⟩ : Itm)).toArray))) ?_
  refine eA rfl (R.as (R.as (R.eqlS fq_43 (.t rfl) (.t rfl) rfl) (fun _ => congrArg Value.bool iK_eqb)) (fun _ => congrArg Value.bool (decide_eq_true hz0))) ?_
  refine W ?_
  refine At.callVR rfl rfl rfl (.k rfl (.kc .nil)) (.nil) (fun hg => st25) .all ?_
  refine At.callVR rfl rfl rfl (.k rfl (.k rfl .nil)) (.blk (.st M3) (.cons (wS M4) .nil)) (fun hg => a_Peek (n := 100) (a := (ks 8).2) (hln ⟨8, by omega⟩) (by omega)) .all ?_
  refine Y ?_
  exact At.final rfl (.t rfl) (List.nil_sublist _) (⟨congrArg Value.bool (by rfl), rfl, rfl⟩)
end Go.Proofs.YtbolanigdkgbdaaGreat
namespace Go.Proofs.YtbolanigdkgbdaaGreat
open Go Go.RowKit
set_option maxRecDepth 10000
set_option linter.unusedVariables false
set_option linter.unnecessarySimpa false
set_option linter.unusedSectionVars false
set_option maxHeartbeats 1000000
theorem fq_57 : flatQ Tryz.prog 57 = some [true, true, true, true, false] := by kernel_rfl
theorem sz_104 : (Tryz.prog.info? 104).map (·.size) = some 2 := by kernel_rfl
theorem ze_104 : (Tryz.prog.info? 104).bind (·.zero) = some (.agg #[.int .i64 0, .int .i64 0]) := by kernel_rfl
abbrev arZ (w : List Int) : Ar := ⟨w, 0, 0, 0, 0, 0, 0, 0, 0, 0, false⟩
theorem arZ_sim (r : Rr) : Sim (arZ r.w) (rFr r) := ⟨rfl, rfl, rfl, rfl, rfl, rfl, rfl⟩
theorem arZ_pos (w : List Int) : (arZ w).pos := ⟨Int.le_refl 0, Int.le_refl 0, Int.le_refl 0, Int.le_refl 0, Int.le_refl 0⟩
theorem arZ_poke {w : List Int} {i : Nat} {x : Int} (h : i < w.length) : (arZ w).poke (i : Int) x = arZ (w.set i x) := by
  unfold Ar.poke Ar.hit
  rw [if_pos (by simp; omega)]; rfl
theorem set_gE {w2 w : List Int} {i : Nat} (h : i < w2.length) (h2 : ∀ j : Nat, j < i → gE w2 (j : Int) = gE w (j : Int)) : ∀ j : Nat, j < i + 1 → gE (w2.set i (gE w (i : Int))) (j : Int) = gE w (j : Int) := fun j hj => by
  by_cases e : j = i
  · subst e; unfold gE; simp [List.getD_eq_getElem?_getD, List.getElem?_set_self h]
  · rw [← h2 j (by omega)]; unfold gE; simp only [List.getD_eq_getElem?_getD, Int.toNat_natCast]; rw [List.getElem?_set_ne (by omega)]
theorem ext_gE {a b : List Int} (h : a.length = b.length) (h2 : ∀ j : Nat, j < a.length → gE a (j : Int) = gE b (j : Int)) : a = b := by
  refine List.ext_getElem h fun j h3 h4 => ?_
  have := h2 j h3
  rwa [gE_get (by simpa using h3), gE_get (by simpa using h4)] at this
theorem peek_in {r : Rr} {i : Nat} (h : i < r.w.length) : r.peek (i : Int) = gE r.w (i : Int) := by
  unfold Rr.peek Rr.hit
  rw [if_pos (by simp; omega)]
def aAt (a : Ar) (i : Nat) : Int := if i = 0 then a.d0 else if i = 1 then a.d1 else if i = 2 then a.d2 else if i = 3 then a.d3 else a.d4
def accS (a : Ar) : Nat → Int
  | 0 => 0
  | i + 1 => accS a i + aAt a i
theorem accS_succ {a : Ar} {i : Nat} (h : i < 5) : accS a i + aAt a i = accS a (i + 1) := rfl
theorem accS_5 (a : Ar) : accS a 5 = a.d0 + a.d1 + a.d2 + a.d3 + a.d4 := by simp [accS, aAt]
theorem aAt_bd {a : Ar} (hf : a.few) (i : Nat) : 0 ≤ aAt a i ∧ aAt a i ≤ 1000000000 := by
  obtain ⟨h0, h1, h2, h3, h4⟩ := hf
  unfold aAt; repeat' split
  all_goals omega
theorem accS_bd {a : Ar} (hf : a.few) : ∀ i : Nat, 0 ≤ accS a i ∧ accS a i ≤ 1000000000 * (i : Int)
  | 0 => by simp [accS]
  | i + 1 => by have h1 := accS_bd hf i; have h2 := aAt_bd hf i; unfold accS; omega
theorem acc_at {a : Ar} {i : Nat} (hi : i < 5) (w : World) : (part 3 #[.int .i64 a.d0, .int .i64 a.d1, .int .i64 a.d2, .int .i64 a.d3, .int .i64 a.d4] (((i : Int)).toNat * 1)).run Tryz.prog w = .ok (.int .i64 (aAt a i)) w := by
  rcases (by omega : i = 0 ∨ i = 1 ∨ i = 2 ∨ i = 3 ∨ i = 4) with rfl | rfl | rfl | rfl | rfl <;> exact run_part Tryz.underlying3 rfl rfl
theorem a_Accesses {b : Nat} {wv : Value} {a : Ar} (hf : a.few) : Fn Tryz.prog 28 [.pointer (some ⟨b, 0, none⟩)] ([arB b wv a]) ([]) (IsV (.int .i64 (a.d0 + a.d1 + a.d2 + a.d3 + a.d4))) := by
 refine Fn.enter Tryz.func28 (by kernel_rfl) rfl (n := 18) rfl rfl (fun w => ?_)
 refine W ?_
 refine At.loop1 (fun (i : Nat) => i ≤ 5) (fun (i : Nat) => 5 - i) (fun (i : Nat) => [(0, true, .pointer (some ⟨b, 0, none⟩)), (3, true, .int .i64 (accS a i)), (9, true, .agg #[.int .i64 a.d0, .int .i64 a.d1, .int .i64 a.d2, .int .i64 a.d3, .int .i64 a.d4]), (10, true, .int .i64 (i : Int))]) (fun (i : Nat) => []) (fun (i : Nat) => []) (0) (by omega) (.cons rfl (.cons rfl (.cons rfl (.cons rfl .nil)))) (List.Sublist.refl _) rfl (fun i hi => ?_)
 refine W ?_
 refine eA rfl (R.lss (.t rfl) .c) ?_
 refine W ?_
 refine At.condD (.t rfl) (fun c1 => ?_) (fun c1 => ?_)
 ·
  refine W ?_
  refine eA rfl (R.indexAgg Tryz.underlying93 sz_3 (.t rfl) (.t rfl) (by omega) (acc_at (by omega))) ?_
  refine W ?_
  refine eA rfl (R.addI (.t rfl) (.t rfl) (fun hg => by have := accS_bd hf i; have := aAt_bd hf i; omega)) ?_
  refine W ?_
  exact At.again1 (i + 1) (by omega) (by omega) (.cons rfl (.cons (by rw [← accS_succ (by omega)]; rfl) (.cons rfl (.cons rfl .nil)))) (List.Sublist.refl _) rfl
 ·
  refine W ?_
  exact At.final rfl (.t rfl) (List.nil_sublist _) (⟨congrArg (Value.int .i64) (by rw [show i = 5 by omega]; exact accS_5 a), rfl, rfl⟩)
theorem a_Last {b : Nat} {wv : Value} {a : Ar} : Fn Tryz.prog 29 [.pointer (some ⟨b, 0, none⟩)] ([arB b wv a]) ([]) (IsV (.agg #[.int .i64 a.k, .int .i64 a.at_, .int .i64 a.old, .int .i64 a.nw, .bool a.ok])) := by
 refine Fn.enter Tryz.func29 (by kernel_rfl) rfl (n := 7) rfl rfl (fun w => ?_)
 refine W ?_
 refine At.alloc rfl rfl rfl ze_57 (fun b1 hb1 => ⟨.all, ?_⟩)
 refine W ?_
 refine At.stN rfl rfl sz_57 (.t rfl) (.t rfl) rfl rfl rfl (.n U0) ⟨.all, ?_⟩
 refine W ?_
 exact At.final rfl (.a (vs := [_, _, _, _, _]) Tryz.underlying57 rfl sz_57 rfl (csS M1 ⟨rfl, rfl, rfl, rfl, rfl, trivial⟩)) (List.nil_sublist _) (⟨rfl, rfl, rfl⟩)
theorem al_Last {b : Nat} {wv : Value} {a : Ar} {r : Rr} (hs : Sim a r) : Fn Tryz.prog 29 [.pointer (some ⟨b, 0, none⟩)] [arB b wv a] [] (IsV (.agg #[.int .i64 r.k, .int .i64 r.at_, .int .i64 r.old, .int .i64 r.nw, .bool r.ok])) := by
  rw [← hs.k, ← hs.at_, ← hs.old, ← hs.nw, ← hs.ok]; exact a_Last
theorem h_Arena {ba n : Nat} {wv : Value} {r : Rr} (hn : r.w.length = n) (hN : 1 ≤ n ∧ n ≤ 20000) : Fn Tryz.prog 11 [.pointer (some ⟨ba, 0, none⟩)] ([raB ba wv r, raR wv n r]) ([]) (fun v N H => (∃ b2 wv2, v = .pointer (some ⟨b2, 0, none⟩) ∧ N = [arB b2 wv2 (arZ r.w), arW wv2 n (arZ r.w)]) ∧ H = []) := by
 refine Fn.enter Tryz.func11 (by kernel_rfl) rfl (n := 31) rfl rfl (fun w => ?_)
 refine W ?_
 refine At.callP (fst := []) (cap := []) rfl rfl rfl Ev.f (.k rfl .nil) rfl (a_New (n := n) (by omega)) (fun _ h => nomatch h) (fun v N1 H1 hR => ?_); obtain ⟨b2, wv2, rfl, rfl, rfl⟩ := hR; refine ⟨rfl, .all, ?_⟩
 refine W ?_
 refine At.re (N' := [arB b2 wv2 (arZ (List.replicate n 0)), arW wv2 n (arZ (List.replicate n 0))]) rfl ?_
 refine At.loop2 (fun (i : Nat) (w2 : List Int) => i ≤ n ∧ w2.length = n ∧ ∀ j : Nat, j < i → gE w2 (j : Int) = gE r.w (j : Int)) (fun (i : Nat) (w2 : List Int) => n - i) (fun (i : Nat) (w2 : List Int) => [(0, true, .pointer (some ⟨ba, 0, none⟩)), (3, true, .pointer (some ⟨b2, 0, none⟩)), (4, true, .int .i64 i)]) (fun (i : Nat) (w2 : List Int) => [arB b2 wv2 (arZ w2), arW wv2 n (arZ w2)]) (fun (i : Nat) (w2 : List Int) => []) (0) (List.replicate n 0) ⟨Nat.zero_le _, List.length_replicate, fun j hj => absurd hj (Nat.not_lt_zero _)⟩ (.cons rfl (.cons rfl (.cons rfl .nil))) (List.Sublist.refl _) rfl (fun i w2 hi => ?_)
 obtain ⟨hi1, hi2, hi3⟩ := hi
 refine W ?_
 refine eA rfl (R.lss (.t rfl) (.t rfl)) ?_
 refine W ?_
 refine At.condD (.t rfl) (fun c1 => ?_) (fun c1 => ?_)
 ·
  refine W ?_
  refine At.callM (fst := []) (cap := []) rfl rfl rfl Ev.f (.k rfl (.k rfl (.k rfl .nil))) rfl (.n (.take (.take .nil))) .nil (a_Poke (n := n) (a := arZ w2) (i := (i : Int)) (x := gE r.w (i : Int)) hi2 (by omega)) rfl .nil ⟨.all, ?_⟩
  refine W ?_
  refine At.re (N' := [arB b2 wv2 (arZ (w2.set i (gE r.w (i : Int)))), arW wv2 n (arZ (w2.set i (gE r.w (i : Int))))]) (by rw [arZ_poke (by omega)]) ?_
  refine W ?_
  exact At.again2 (i + 1) (w2.set i (gE r.w (i : Int))) ⟨by omega, by rw [List.length_set]; exact hi2, set_gE (by omega) hi3⟩ (by omega) (.cons rfl (.cons rfl (.cons rfl .nil))) (List.Sublist.refl _) rfl
 ·
  refine W ?_
  refine At.re (N' := [arB b2 wv2 (arZ r.w), arW wv2 n (arZ r.w)]) (by rw [show w2 = r.w from ext_gE (by omega) (fun j hj => hi3 j (by omega))]) ?_
  exact At.final (N' := [arB b2 wv2 (arZ r.w), arW wv2 n (arZ r.w)]) rfl (.t rfl) (List.Sublist.refl _) (⟨⟨b2, wv2, rfl, rfl⟩, rfl⟩)
theorem h_Alike {b ba n : Nat} {wa wv : Value} {a : Ar} {r : Rr} (hs : Sim a r) (hf : a.few) (hn : r.w.length = n) (hN : n ≤ 1000000) : Fn Tryz.prog 31 [.pointer (some ⟨b, 0, none⟩), .pointer (some ⟨ba, 0, none⟩)] ([arB b wa a, arR wa n a, raB ba wv r, raR wv n r]) ([]) (IsV (.bool true)) := by
 refine Fn.enter Tryz.func31 (by kernel_rfl) rfl (n := 56) rfl rfl (fun w => ?_)
 have hna : a.w.length = n := (by rw [hs.w]; exact hn)
 refine W ?_
 refine At.drawK [tt 0, tt 1, tt 2, tt 3, tt 5, tt 6, tt 7, tt 8, tt 9, ff 4, tt 10, tt 11, tt 12, tt 13, tt 15, tt 16, tt 17, tt 18, ff 14, tt 19, tt 20, tt 21, tt 22, tt 24, tt 25, tt 26, tt 27, ff 23, tt 28, tt 29] (by kernel_rfl) (by kernel_rfl) ?_
 refine W ?_
 refine sJ rfl (R.eqlNilP Tryz.underlying33 (.t rfl)) ?_
 refine W ?_
 refine At.callVR rfl rfl rfl (.k rfl .nil) (.blk (.st M0) (.cons (rS M1) .nil)) (fun hg => a_Len (a := a) hna hN) kI ?_
 refine sJ rfl (R.as (R.neq (.t rfl) (.t rfl)) (fun _ => congrArg Value.bool (congrArg Bool.not (decide_eq_true (by rfl))))) ?_
 refine W ?_
 refine At.callVR rfl rfl rfl (.k rfl .nil) (.blk (.st M0) .nil) (fun hg => (hs.n ▸ a_Accesses (a := a) hf)) kI ?_
 refine sJ rfl (R.as (R.neq (.t rfl) (.t rfl)) (fun _ => congrArg Value.bool (congrArg Bool.not (decide_eq_true (by rfl))))) ?_
 refine W ?_
 refine At.callVR rfl rfl rfl (.k rfl .nil) (.blk (.st M0) .nil) (fun hg => al_Last hs) kI ?_
 refine sJ rfl (R.as (v' := .bool false) (R.neqS fq_57 (.t rfl) (.t rfl) rfl) (fun _ => congrArg Value.bool (by simp))) ?_
 refine W ?_
 refine At.loop1 (fun (i : Nat) => i ≤ n) (fun (i : Nat) => n - i) (fun (i : Nat) => [(0, true, .pointer (some ⟨b, 0, none⟩)), (1, true, .pointer (some ⟨ba, 0, none⟩)), (5, true, .int .i64 i)]) (fun (i : Nat) => []) (fun (i : Nat) => []) (0) (Nat.zero_le _) (.cons rfl (.cons rfl (.cons rfl .nil))) (List.Sublist.refl _) rfl (fun i hi => ?_)
 refine W ?_
 refine eA rfl (R.lss (.t rfl) (.t rfl)) ?_
 refine W ?_
 refine At.condD (.t rfl) (fun c2 => ?_) (fun c2 => ?_)
 ·
  have hpe : r.peek (i : Int) = gE r.w (i : Int) := peek_in (by omega)
  refine W ?_
  refine At.drawK [tt 0, tt 1, tt 3, tt 4, tt 5, tt 6, tt 7, tt 8, tt 9, ff 2, tt 10] (by kernel_rfl) (by kernel_rfl) ?_
  refine W ?_
  refine At.callVR rfl rfl rfl (.k rfl (.k rfl .nil)) (.blk (.st M0) (.cons (rS M1) .nil)) (fun hg => (hs.peek (i : Int) ▸ a_Peek (a := a) hna hN)) kI ?_
  refine sJ rfl (R.as (R.neq (.t rfl) (.t rfl)) (fun _ => congrArg Value.bool (congrArg Bool.not (decide_eq_true (by omega))))) ?_
  refine W ?_
  exact At.again1 (i + 1) (by omega) (by omega) (.cons rfl (.cons rfl (.cons rfl .nil))) (List.Sublist.refl _) rfl
 ·
  refine W ?_
  exact At.final rfl (.t rfl) (List.nil_sublist _) (⟨rfl, rfl, rfl⟩)
theorem h_Lay {b ba n : Nat} {wa wv Lv : Value} {a : Ar} {r : Rr} {pl : List (Int × Int)} {i : Int} (hs : Sim a r) (hn : r.w.length = n) (hN : n ≤ 1000000) (hi : 0 ≤ i ∧ i ≤ 1000000) (hpl : pl.length ≤ 1000000000) : FnX Tryz.prog 30 [.pointer (some ⟨b, 0, none⟩), .pointer (some ⟨ba, 0, none⟩), Lv, .int .i64 i] ([rdE pK Lv pl]) ([arB b wa a, arW wa n a, raB ba wv r, raW wv n r]) (fun v N => v = .tuple #[] ∧ (N = [arB b wa a, arW wa n a, raB ba wv r, raW wv n r] ∨ ∃ p w, (0 ≤ w ∧ w ≤ 268435456) ∧ N = [arB b wa (a.poke p w), arW wa n (a.poke p w), raB ba wv (r.poke p w), raW wv n (r.poke p w)])) := by
 refine FnX.enter Tryz.func30 (by kernel_rfl) rfl (n := 50) rfl rfl (fun w df hds how => ?_)
 refine W ?_
 refine eA rfl (R.eql (.t rfl) .c) ?_
 refine W ?_
 refine eA rfl (R.remI (.s rfl) .c gO) ?_
 refine eA rfl (R.neq (.s rfl) .c) ?_
 refine W ?_
 refine At.cond (.t rfl) (fun c1 => ?_) (fun c1 => ?_)
 ·
  refine W ?_
  exact At.finalX0 (N' := [arB b wa a, arW wa n a, raB ba wv r, raW wv n r]) hds how rfl (List.Sublist.refl _) (⟨rfl, .inl rfl⟩) _ (.inl rfl)
 ·
  have h9 : ¬ ((pl.length : Int) = 0) := (fun h => by rw [h] at c1; simp at c1); have hlp : 0 < (pl.length : Int) := (by omega); have hq := Int.emod_lt_of_pos (i / 3) hlp; have hq0 := Int.emod_nonneg (i / 3) (b := (pl.length : Int)) (by omega)
  refine W ?_
  refine eA rfl (R.quoI (.t rfl) .c gO) ?_
  refine W ?_
  refine eA rfl (R.remI (.t rfl) (.t rfl) gO) ?_
  refine W ?_
  refine eA rfl (R.loadRdAgg (us := pK.enc _) Tryz.underlying104 rfl sz_104 (.t rfl) (rS M0) gO (fun hg => by exact Ek.getA (by omega))) ?_
  refine At.alloc rfl rfl rfl ze_104 (fun b1 hb1 => ⟨.all, ?_⟩)
  refine At.stN rfl rfl sz_104 (.t rfl) (.t rfl) rfl rfl rfl (.n U0) ⟨.all, ?_⟩
  refine W ?_
  refine eA rfl (R.lss (.t rfl) .c) ?_
  refine W ?_
  refine eA rfl (R.gtr (.s rfl) .c) ?_
  refine W ?_
  refine eA rfl (R.lss (.s rfl) .c) ?_
  refine W ?_
  refine At.cond (.t rfl) (fun c2 => ?_) (fun c2 => ?_)
  ·
   refine W ?_
   exact At.finalX0 (N' := [arB b wa a, arW wa n a, raB ba wv r, raW wv n r]) hds how rfl sl (⟨rfl, .inl rfl⟩) _ (.inl rfl)
  ·
   simp at c2
   refine W ?_
   refine At.callM (fst := []) (cap := []) rfl rfl rfl Ev.f (.k rfl (.k rfl (.k rfl .nil))) rfl (.n (.skip (.take (.take .nil)))) .nil (a_Poke (n := n) (a := a) (i := (gE pl (i / 3 % (pl.length : Int))).1) (x := (gE pl (i / 3 % (pl.length : Int))).2) (by rw [hs.w]; exact hn) hN) rfl .nil ⟨.all, ?_⟩
   refine W ?_
   refine At.callM (fst := []) (cap := []) rfl rfl rfl Ev.f (.k rfl (.k rfl (.k rfl .nil))) rfl (.n (.skip (.skip (.skip (.take (.take .nil)))))) .nil (r_Poke (n := n) (r := r) (i := (gE pl (i / 3 % (pl.length : Int))).1) (x := (gE pl (i / 3 % (pl.length : Int))).2) hn hN) keysRa .nil ⟨.all, ?_⟩
   refine W ?_
   exact At.finalX0 (N' := [arB b wa (a.poke (gE pl (i / 3 % (pl.length : Int))).1 (gE pl (i / 3 % (pl.length : Int))).2), arW wa n (a.poke (gE pl (i / 3 % (pl.length : Int))).1 (gE pl (i / 3 % (pl.length : Int))).2), raB ba wv (r.poke (gE pl (i / 3 % (pl.length : Int))).1 (gE pl (i / 3 % (pl.length : Int))).2), raW wv n (r.poke (gE pl (i / 3 % (pl.length : Int))).1 (gE pl (i / 3 % (pl.length : Int))).2)]) hds how rfl sl (⟨rfl, .inr ⟨(gE pl (i / 3 % (pl.length : Int))).1, (gE pl (i / 3 % (pl.length : Int))).2, by omega, rfl⟩⟩) _ (.inr rfl)
end Go.Proofs.YtbolanigdkgbdaaGreat
namespace Go.Proofs.YtbolanigdkgbdaaGreat
open Go Go.RowKit
set_option linter.unusedVariables false
theorem Cl.keptS [Df] {w0 : World} {S N N' H : Hp} (h : N.Sublist N') : Cl w0 S N' H (Kept (S ++ (N ++ H))) := Cl.kept fun e he => by
  simp only [List.mem_append] at he ⊢
  rcases he with he | he | he
  · exact .inl he
  · exact .inr (.inl (h.subset he))
  · exact .inr (.inr he)
theorem h_LayS {b ba n k : Nat} {wa wv Lv : Value} {a : Ar} {r : Rr} {pl : List (Int × Int)} {i : Int} (hs : Sim a r) (hp : a.pos) (hr : r.okk n k) (hN : n ≤ 1000000) (hi : 0 ≤ i ∧ i ≤ 1000000) (hpl : pl.length ≤ 1000000000) :
    FnX Tryz.prog 30 [.pointer (some ⟨b, 0, none⟩), .pointer (some ⟨ba, 0, none⟩), Lv, .int .i64 i] [rdE pK Lv pl] [arB b wa a, arW wa n a, raB ba wv r, raW wv n r]
      (fun v N => v = .tuple #[] ∧ ∃ a2 r2, Sim a2 r2 ∧ a2.pos ∧ r2.okk n k ∧ N = [arB b wa a2, arW wa n a2, raB ba wv r2, raW wv n r2]) := by
  refine (h_Lay hs hr.len hN hi hpl).mono ?_
  rintro v N ⟨rfl, rfl | ⟨p, w, hw, rfl⟩⟩
  · exact ⟨rfl, a, r, hs, hp, hr, rfl⟩
  · exact ⟨rfl, _, _, hs.poke p w, Ar.pos_poke hp _ _, hr.poke (Bd.sm (by omega)), rfl⟩
theorem MapL.len {ml : List (Int × Itm)} {l : List Itm} (h : MapL ml l) : ml.length = l.length := by
  have hkn : (l.map (·.key)).Nodup := List.pairwise_map.2 (h.rise.imp fun {a b} hab => by omega)
  have hp : (ml.map (·.1)).Perm (l.map (·.key)) := (List.perm_ext_iff_of_nodup h.nd hkn).2 fun k => by
    constructor
    · intro hk
      obtain ⟨v, hv, _⟩ := aget_mem hk
      have hvk := h.own k v hv
      exact List.mem_map.2 ⟨v, (h.mem v).2 (by rw [hvk]; exact hv), hvk⟩
    · intro hk
      obtain ⟨y, hy, rfl⟩ := List.mem_map.1 hk
      exact aget_some_mem ((h.mem y).1 hy)
  have := hp.length_eq
  rwa [List.length_map, List.length_map] at this
theorem c_same {u v : Value} {a : List Itm} : Fn Tryz.prog 22 [u, v] [rdE iK u a, rdE iK v a] [] (IsV (.bool true)) := by
  have := c_SameItems (u := u) (v := v) (a := a) (b := a)
  rwa [decide_eq_true rfl] at this
theorem Dl.next_cap (x : Dl) : x.next.cap = x.cap := by unfold Dl.next; split <;> rfl
theorem Dl.seven_cap (x : Dl) : x.seven.cap = x.cap := by
  unfold Dl.seven; split
  · rw [Dl.next_cap]
  · rfl
theorem Dl.step_cap (x : Dl) (r : Rr) : (x.step r).1.cap = x.cap := by
  unfold Dl.step
  repeat' split
  all_goals first | rfl | exact Dl.next_cap _ | exact Dl.seven_cap _
theorem Dl.next_chunk (x : Dl) : x.next.chunk = x.chunk := by unfold Dl.next; split <;> rfl
theorem Dl.seven_chunk (x : Dl) : x.seven.chunk = x.chunk := by
  unfold Dl.seven; split
  · rw [Dl.next_chunk]
  · rfl
theorem Dl.step_chunk (x : Dl) (r : Rr) : (x.step r).1.chunk = x.chunk := by
  unfold Dl.step
  repeat' split
  all_goals first | rfl | exact Dl.next_chunk _ | exact Dl.seven_chunk _
end Go.Proofs.YtbolanigdkgbdaaGreat
namespace Go.Proofs.YtbolanigdkgbdaaGreat
open Go Go.RowKit
set_option maxRecDepth 10000
set_option linter.unusedVariables false
set_option linter.unnecessarySimpa false
set_option linter.unusedSectionVars false
set_option maxHeartbeats 1000000
theorem c_LookTells {th cap wd ver z lo hi most : Int} {Ov Pv dv Lv : Value} {gs : opsRows} {ps l0 : List Int} {pl : List (Int × Int)} (hz : 0 ≤ z ∧ z ≤ 255) : Fn Tryz.prog 5 [.agg #[.int .i64 th, .int .i64 cap, .int .i64 wd, .int .i64 ver, Ov, Pv, dv], .int .u8 z, .int .i64 lo, .int .i64 hi, .int .i64 most, Lv] (rdE pK Lv pl :: SCr dv l0 Pv ps Ov gs) ([]) (IsV (.bool true)) := by
 refine Fn.enter Tryz.func5 (by kernel_rfl) rfl (n := 103) rfl rfl (fun w => ?_)
 have hG : ∀ y ∈ gs, rdE opK y.1 y.2 ∈ rdE pK Lv pl :: SCr dv l0 Pv ps Ov gs := fun y hy => .tail _ (.tail _ (.tail _ (.tail _ ((List.mem_map.2 ⟨y, hy, rfl⟩)))))
 refine W ?_
 refine At.box rfl rfl rfl (.t rfl) (fun b1 hb1 => ⟨.all, ?_⟩)
 refine W ?_
 refine At.callVR rfl rfl rfl .nil .nil (fun hg => c_known11) .all ?_
 refine eA rfl (R.not (.t rfl)) ?_
 refine W ?_
 refine At.callP (fst := []) (cap := []) rfl rfl rfl Ev.f (.k rfl (.kc .nil)) rfl (h_Wide (th := th) (cap := cap) (wd := wd) (ver := ver) (p := 300) (Ov := Ov) (Pv := Pv) (dv := dv) (gs := gs) (ps := ps) (l0 := l0) (by decide)) (fun e he w hw => hw.hasS e (.tail _ he)) (fun v N1 H1 hR => ?_); obtain ⟨⟨e, rfl, he⟩, rfl, rfl⟩ := hR; refine ⟨rfl, .all, ?_⟩
 refine W ?_
 refine eA rfl (R.gtr (.s rfl) .c) ?_
 refine W ?_
 refine At.cond (.t rfl) (fun c2 => ?_) (fun c2 => ?_)
 ·
  refine W ?_
  exact At.final rfl (.t rfl) (List.nil_sublist _) (⟨rfl, rfl, rfl⟩)
 ·
  simp at c2; have hno := he c2.1; have hok := hno.ok; have hth := hok.conf.h_th; have hcap := hok.conf.h_cap; have hwd := hok.conf.h_wd; have hgl := hno.gl; have hpl1 := hno.pl; have hdl := hno.dl; obtain ⟨capN, hcapN⟩ := Int.eq_ofNat_of_zero_le (a := cap) (by omega); subst hcapN; obtain ⟨wdN, hwdN⟩ := Int.eq_ofNat_of_zero_le (a := wd) (by omega); subst hwdN
  refine W ?_
  refine At.callX (fst := []) (cap := []) rfl rfl rfl Ev.f (.k rfl .nil) rfl .nil (.cons (rS M1) (.cons (rS M2) (.ofNest (rS M3) (fun y hy => rS (by simp only [List.mem_append]; exact .inl (hG y hy)))))) (h_Left (th := th) (ver := ver) (cap := capN) (n := wdN) (by omega) (by omega) (fun y hy => by have := hno.ol y hy; omega) (by omega)) (Aprt.sub1 (fun e he => .tail _ he) .nil) (fun v B hR => ⟨.all, ?_⟩); obtain ⟨ba, wv, r, m, rfl, rfl, hr, hm1, hm2⟩ := hR
  refine At.callP (fst := []) (cap := []) rfl rfl rfl Ev.f (.k rfl .nil) rfl (h_Fresh (r := r) hr.len (by omega)) (Rds.all (.blk (.st (by ((refine List.mem_append_right _ ?_; repeat (exact List.Mem.head _))))) (.cons (rN2 (by ((refine List.mem_append_right _ ?_; repeat (first | exact List.Mem.head _ | apply List.Mem.tail))))) .nil))) (fun v N1 H1 hR => ?_); obtain ⟨⟨b2, wv2, rfl, rfl⟩, rfl⟩ := hR; refine ⟨rfl, .all, ?_⟩
  refine W ?_
  refine At.callP (fst := []) (cap := []) rfl rfl rfl Ev.f (.k rfl .nil) rfl (h_Arena (r := rFr r) (n := m) hr.len ⟨hm1, hm2⟩) (Rds.all (.blk (.st (by ((refine List.mem_append_right _ ?_; repeat (exact List.Mem.head _))))) (.cons (rN2 (by ((refine List.mem_append_right _ ?_; repeat (first | exact List.Mem.head _ | apply List.Mem.tail))))) .nil))) (fun v N1 H1 hR => ?_); obtain ⟨⟨b3, wa, rfl, rfl⟩, rfl⟩ := hR; refine ⟨rfl, .all, ?_⟩
  refine W ?_
  refine At.callP (fst := []) (cap := []) rfl rfl rfl Ev.f (.k rfl (.k rfl (.k rfl .nil))) rfl (h_pick (r := rFr r) (n := m) (th := th) (cap := (capN : Int)) (wd := (wdN : Int)) (ver := ver) hr.len (by omega) (by omega) (by omega) hz) (Rds.all (.blk (.st (by ((refine List.mem_append_right _ ?_; repeat (first | exact List.Mem.head _ | apply List.Mem.tail))))) (.cons (rN2 (by ((refine List.mem_append_right _ ?_; repeat (first | exact List.Mem.head _ | apply List.Mem.tail))))) .nil))) (fun v N1 H1 hR => ?_); obtain ⟨⟨k, rfl, hk1, hk2⟩, rfl, rfl⟩ := hR; refine ⟨rfl, .all, ?_⟩
  refine W ?_
  refine At.drawK [tt 0, tt 1, tt 2, tt 3, tt 4, tt 5, tt 7, tt 8, tt 9, tt 10, tt 11, tt 12, ff 6, ff 13, tt 14, tt 15] (by kernel_rfl) (by kernel_rfl) ?_
  refine W ?_
  refine At.callP (fst := []) (cap := []) rfl rfl rfl Ev.f (.k rfl (.k rfl (.k rfl (.k rfl (.k rfl .nil))))) rfl (k_New (a := th) (b := (capN : Int)) (c := (wdN : Int)) (d := ver) (chunk := k) (lo := lo) (hi := hi) (most := most)) (fun _ h => nomatch h) (fun v N1 H1 hR => ?_); obtain ⟨bl, bm, rfl, rfl, rfl⟩ := hR; refine ⟨rfl, (Cl.keptS sl), ?_⟩
  refine At.callP (fst := []) (cap := []) rfl rfl rfl Ev.f (.k rfl (.k rfl (.k rfl (.k rfl (.k rfl .nil))))) rfl (dl_New (a := th) (b := (capN : Int)) (c := (wdN : Int)) (d := ver) (chunk := k) (lo := lo) (hi := hi) (most := most)) (fun _ h => nomatch h) (fun v N1 H1 hR => ?_); obtain ⟨bd, rfl, rfl, rfl⟩ := hR; refine ⟨rfl, (Cl.keptS sl), ?_⟩
  refine W ?_
  refine At.fewer (N1 := [dlB bd (.slice none 0 0) (⟨th, (capN : Int), (wdN : Int), ver, k, lo, hi, most, 1, 0, 0, 0, 0, 0, []⟩ : Dl), rowE iK 43 (.slice none 0 0) [], lkB bl bm (⟨th, (capN : Int), (wdN : Int), ver, k, lo, hi, most, 1, 0, -1, 0, 0, 0, []⟩ : Lk), lkM bm (⟨th, (capN : Int), (wdN : Int), ver, k, lo, hi, most, 1, 0, -1, 0, 0, 0, []⟩ : Lk), arB b3 wa (arZ r.w), arW wa m (arZ r.w), raB b2 wv2 (rFr r), raW wv2 m (rFr r)]) sl (permOf [_, _, _, _, _, _, _, _] [0, 1, 2, 3, 4, 5, 6, 7] [2, 3, 0, 1, 4, 5, 6, 7] rfl []) ?_
  refine At.re (N' := [lkB bl bm (⟨th, (capN : Int), (wdN : Int), ver, k, lo, hi, most, 1, 0, -1, 0, 0, 0, []⟩ : Lk), lkM bm (⟨th, (capN : Int), (wdN : Int), ver, k, lo, hi, most, 1, 0, -1, 0, 0, 0, []⟩ : Lk), dlB bd (.slice none 0 0) (⟨th, (capN : Int), (wdN : Int), ver, k, lo, hi, most, 1, 0, 0, 0, 0, 0, []⟩ : Dl), rowE iK 43 (.slice none 0 0) (⟨th, (capN : Int), (wdN : Int), ver, k, lo, hi, most, 1, 0, 0, 0, 0, 0, []⟩ : Dl).l, arB b3 wa (arZ r.w), arW wa m (arZ r.w), raB b2 wv2 (rFr r), raW wv2 m (rFr r)]) rfl ?_
  refine At.loop6 (fun (i : Nat) (x : Lk) (y : Dl) (a : Ar) (r2 : Rr) (Lv2 : Value) => LkS x y ∧ Sim a r2 ∧ a.pos ∧ y.bd (800000 + i) ∧ r2.okk m (800000 + i) ∧ y.chunk = k ∧ (0 ≤ y.cap ∧ y.cap ≤ 16) ∧ i ≤ 400) (fun (i : Nat) (x : Lk) (y : Dl) (a : Ar) (r2 : Rr) (Lv2 : Value) => 400 - i) (fun (i : Nat) (x : Lk) (y : Dl) (a : Ar) (r2 : Rr) (Lv2 : Value) => [(5, true, Lv), (13, true, .pointer (some ⟨b2, 0, none⟩)), (14, true, .pointer (some ⟨b3, 0, none⟩)), (16, true, .pointer (some ⟨bl, 0, none⟩)), (17, true, .pointer (some ⟨bd, 0, none⟩)), (18, true, .int .i64 i)]) (fun (i : Nat) (x : Lk) (y : Dl) (a : Ar) (r2 : Rr) (Lv2 : Value) => [lkB bl bm x, lkM bm x, dlB bd Lv2 y, rowE iK 43 Lv2 y.l, arB b3 wa a, arW wa m a, raB b2 wv2 r2, raW wv2 m r2]) (fun (i : Nat) (x : Lk) (y : Dl) (a : Ar) (r2 : Rr) (Lv2 : Value) => []) (0) ((⟨th, (capN : Int), (wdN : Int), ver, k, lo, hi, most, 1, 0, -1, 0, 0, 0, []⟩ : Lk)) ((⟨th, (capN : Int), (wdN : Int), ver, k, lo, hi, most, 1, 0, 0, 0, 0, 0, []⟩ : Dl)) (arZ r.w) (rFr r) (.slice none 0 0) ⟨LkS.new, arZ_sim r, arZ_pos _, dlNew_bd (Bd.sm (by omega)) (by omega), rFr_okk hr, rfl, (by show 0 ≤ (capN : Int) ∧ (capN : Int) ≤ 16; omega), Nat.zero_le _⟩ (.cons rfl (.cons rfl (.cons rfl (.cons rfl (.cons rfl (.cons rfl .nil)))))) (List.Sublist.refl _) rfl (fun i x y a r2 Lv2 hi => ?_)
  obtain ⟨hL, hS, hap, hbd, hokk, hch, hcp, hi0⟩ := hi; have hkb : 800000 + i ≤ 100000000 := (by omega); have hcp0 : 0 ≤ y.cap := (by omega); have hst := hL.step hS hcp0; have hxo := hL.ok hbd hkb (by omega); have hal : a.w.length = m := (by rw [hS.w]; exact hokk.len); have haf := hS.few hap hokk hkb; have haw := hS.word hokk hkb; have hyo := hbd.ok hkb; have hyl : y.l.length ≤ 10000 := (by have := hbd.ll; have := hbd.ii; omega); have hrf := hokk.few hkb; have hrw := hokk.big hkb; have hok2 := hbd.step hokk; have hap2 : (x.step a).2.pos := Lk.step_pos hap; have haf2 := hst.2.few hap2 hok2.2 (by omega : 800000 + i + 1 ≤ 100000000)
  refine W ?_
  refine eA rfl (R.lss (.t rfl) .c) ?_
  refine W ?_
  refine At.condD (.t rfl) (fun c3 => ?_) (fun c3 => ?_)
  ·
   refine W ?_
   refine At.callM (fst := []) (cap := []) rfl rfl rfl Ev.f (.k rfl (.k rfl .nil)) rfl (.n (.take (.take (.skip (.skip (.take (.take .nil))))))) .nil (k_Step (x := x) (a := a) (n := m) hxo hal (by omega) haf haw) rfl .nil ⟨.all, ?_⟩
   refine W ?_
   refine At.callX (fst := []) (cap := []) rfl rfl rfl Ev.f (.k rfl (.k rfl .nil)) rfl (.skip (.skip (.take (.take (.skip (.skip (.take (.take .nil)))))))) .nil (dl_Step (x := y) (r := r2) hyo hyl hokk.len (by omega) hrf hrw) Aprt.nil (fun v B hR => ⟨.all, ?_⟩); obtain ⟨Lv3, rfl, rfl⟩ := hR; refine At.perm (permOf [_, _, _, _, _, _, _, _] [0, 1, 2, 3, 4, 5, 6, 7] [4, 5, 0, 1, 6, 7, 2, 3] rfl []) ?_; refine At.re (N' := [lkB bl bm (x.step a).1, lkM bm (x.step a).1, dlB bd Lv3 (y.step r2).1, rowE iK 43 Lv3 (y.step r2).1.l, arB b3 wa (x.step a).2, arW wa m (x.step a).2, raB b2 wv2 (y.step r2).2, raW wv2 m (y.step r2).2]) rfl ?_
   refine W ?_
   refine At.drawK [tt 0, tt 1, tt 2, tt 3, tt 4, tt 6, tt 7, tt 8, tt 9, ff 5, tt 10, tt 11, tt 12, tt 13, tt 15, tt 16, tt 17, tt 18, ff 14, tt 19, tt 20] (by kernel_rfl) (by kernel_rfl) ?_
   refine W ?_
   refine sJ rfl (R.as (v' := .bool false) (R.neqB Tryz.underlying4 (.t rfl) (.t rfl)) (fun _ => congrArg Value.bool (by rw [hst.1.line]; simp))) ?_
   refine W ?_
   refine At.callVR rfl rfl rfl (.k rfl .nil) (.blk (.st (by ((refine List.mem_append_right _ ?_; repeat (first | exact List.Mem.head _ | apply List.Mem.tail))))) .nil) (fun hg => (hst.2.n ▸ a_Accesses (a := (x.step a).2) haf2)) (Cl.keptS (List.Sublist.refl _)) ?_
   refine sJ rfl (R.as (R.neq (.t rfl) (.t rfl)) (fun _ => congrArg Value.bool (congrArg Bool.not (decide_eq_true (by rfl))))) ?_
   refine W ?_
   refine At.callVR rfl rfl rfl (.k rfl .nil) (.blk (.st (by ((refine List.mem_append_right _ ?_; repeat (first | exact List.Mem.head _ | apply List.Mem.tail))))) .nil) (fun hg => al_Last hst.2) (Cl.keptS (List.Sublist.refl _)) ?_
   refine sJ rfl (R.as (v' := .bool false) (R.neqS fq_57 (.t rfl) (.t rfl) rfl) (fun _ => congrArg Value.bool (by simp))) ?_
   refine W ?_
   refine At.condD (.t rfl) (fun c5 => ?_) (fun c5 => ?_)
   ·
    refine W ?_
    refine At.drawK [tt 0, tt 2, tt 3, tt 4, tt 5, ff 1, ff 6, tt 7, tt 8, tt 9, ff 10, tt 11, tt 12] (by kernel_rfl) (by kernel_rfl) ?_
    refine W ?_
    refine At.callP (fst := []) (cap := []) rfl rfl rfl Ev.f (.k rfl .nil) rfl (k_Items (b := bl) (bm := bm) (x := (x.step a).1) (by rw [hst.1.m.len]; have := hok2.1.ll; have := hok2.1.ii; omega)) (Rds.all (.blk (.st (by ((refine List.mem_append_right _ ?_; repeat (exact List.Mem.head _))))) (.blk (.st (by ((refine List.mem_append_right _ ?_; repeat (first | exact List.Mem.head _ | apply List.Mem.tail))))) .nil))) (fun vi N1 H1 hR => ?_); obtain ⟨zs, ⟨ys, hy1, hy2, hy3⟩, rfl, rfl⟩ := hR; obtain rfl := hst.1.m.items hy1 hy2 hy3; refine ⟨rfl, (Cl.keptS sl), ?_⟩
    refine At.callVR rfl rfl rfl (.k rfl (.k rfl .nil)) (.cons (rN2 (by ((refine List.mem_append_right _ ?_; repeat (exact List.Mem.head _))))) (.cons (rN2 (by ((refine List.mem_append_right _ ?_; repeat (first | exact List.Mem.head _ | apply List.Mem.tail))))) .nil)) (fun hg => c_same) (Cl.keptS sl) ?_
    refine W ?_
    refine At.callVR rfl rfl rfl (.k rfl (.k rfl .nil)) (.blk (.st (by ((refine List.mem_append_right _ ?_; repeat (first | exact List.Mem.head _ | apply List.Mem.tail))))) (.cons (rN2 (by ((refine List.mem_append_right _ ?_; repeat (first | exact List.Mem.head _ | apply List.Mem.tail))))) (.blk (.st (by ((refine List.mem_append_right _ ?_; repeat (first | exact List.Mem.head _ | apply List.Mem.tail))))) (.cons (rN2 (by ((refine List.mem_append_right _ ?_; repeat (first | exact List.Mem.head _ | apply List.Mem.tail))))) .nil)))) (fun hg => h_Alike (n := m) hst.2 haf2 hok2.2.len (by omega)) (Cl.keptS sl) ?_
    refine W ?_
    exact At.final rfl (.t rfl) (List.nil_sublist _) (⟨rfl, rfl, rfl⟩)
   ·
    refine W ?_
    refine At.callX (fst := []) (cap := []) rfl rfl rfl Ev.f (.k rfl (.k rfl (.k rfl (.k rfl .nil)))) rfl (.skip (.skip (.skip (.skip .all)))) (.cons (rS M0) .nil) (h_LayS (k := 800000 + i + 1) (pl := pl) (i := (i : Int)) hst.2 hap2 hok2.2 (by omega) (by omega) (by omega)) (Aprt.sub1 (mem1 (.head _)) (.skip (.skip (.skip (.skip .all))))) (fun v B hR => ⟨.all, ?_⟩); obtain ⟨rfl, a3, r3, hs3, hp3, hr3, rfl⟩ := hR; refine At.perm (permOf [_, _, _, _, _, _, _, _] [0, 1, 2, 3, 4, 5, 6, 7] [4, 5, 6, 7, 0, 1, 2, 3] rfl []) ?_; refine At.re (N' := [lkB bl bm (x.step a).1, lkM bm (x.step a).1, dlB bd Lv3 (y.step r2).1, rowE iK 43 Lv3 (y.step r2).1.l, arB b3 wa a3, arW wa m a3, raB b2 wv2 r3, raW wv2 m r3]) rfl ?_
    refine W ?_
    exact At.again6 (i + 1) ((x.step a).1) ((y.step r2).1) (a3) (r3) (Lv3) ⟨hst.1, hs3, hp3, hok2.1, hr3, (Dl.step_chunk y r2).trans hch, (by rw [Dl.step_cap]; exact hcp), by omega⟩ (by omega) (.cons rfl (.cons rfl (.cons rfl (.cons rfl (.cons rfl (.cons rfl .nil)))))) (List.Sublist.refl _) rfl
  ·
   refine W ?_
   refine At.drawK [tt 0, tt 2, tt 3, tt 4, tt 5, ff 1, ff 6, tt 7, tt 8, tt 9, ff 10, tt 11, tt 12] (by kernel_rfl) (by kernel_rfl) ?_
   refine W ?_
   refine At.callP (fst := []) (cap := []) rfl rfl rfl Ev.f (.k rfl .nil) rfl (k_Items (b := bl) (bm := bm) (x := x) (by rw [hL.m.len]; have := hbd.ll; have := hbd.ii; omega)) (Rds.all (.blk (.st (by ((refine List.mem_append_right _ ?_; repeat (exact List.Mem.head _))))) (.blk (.st (by ((refine List.mem_append_right _ ?_; repeat (first | exact List.Mem.head _ | apply List.Mem.tail))))) .nil))) (fun vi N1 H1 hR => ?_); obtain ⟨zs, ⟨ys, hy1, hy2, hy3⟩, rfl, rfl⟩ := hR; obtain rfl := hL.m.items hy1 hy2 hy3; refine ⟨rfl, (Cl.keptS sl), ?_⟩
   refine At.callVR rfl rfl rfl (.k rfl (.k rfl .nil)) (.cons (rN2 (by ((refine List.mem_append_right _ ?_; repeat (exact List.Mem.head _))))) (.cons (rN2 (by ((refine List.mem_append_right _ ?_; repeat (first | exact List.Mem.head _ | apply List.Mem.tail))))) .nil)) (fun hg => c_same) (Cl.keptS sl) ?_
   refine W ?_
   refine At.callVR rfl rfl rfl (.k rfl (.k rfl .nil)) (.blk (.st (by ((refine List.mem_append_right _ ?_; repeat (first | exact List.Mem.head _ | apply List.Mem.tail))))) (.cons (rN2 (by ((refine List.mem_append_right _ ?_; repeat (first | exact List.Mem.head _ | apply List.Mem.tail))))) (.blk (.st (by ((refine List.mem_append_right _ ?_; repeat (first | exact List.Mem.head _ | apply List.Mem.tail))))) (.cons (rN2 (by ((refine List.mem_append_right _ ?_; repeat (first | exact List.Mem.head _ | apply List.Mem.tail))))) .nil)))) (fun hg => h_Alike (n := m) hS haf hokk.len (by omega)) (Cl.keptS sl) ?_
   refine W ?_
   exact At.final rfl (.t rfl) (List.nil_sublist _) (⟨rfl, rfl, rfl⟩)
end Go.Proofs.YtbolanigdkgbdaaGreat
namespace Go.Proofs.YtbolanigdkgbdaaGreat
open Go Go.RowKit Go.ChangeShapes Go.Deep
set_option linter.unusedVariables false
theorem cell_spot {w : World} {a : Addr} {v : Value} (h : w.cell? a = some v) : a.spot = none ∧ a.block < w.heap.size := by
  unfold World.cell? at h
  split at h
  · rename_i c e f hb
    split at h
    · cases h
    · rename_i hs
      refine ⟨by simpa using hs, ?_⟩
      rcases Nat.lt_or_ge a.block w.heap.size with h' | h'
      · exact h'
      · rw [Array.getElem?_eq_none h'] at hb; cases hb
  · cases h
theorem rd_of_cells {w : World} {a : Addr} {sz n cap : Nat} {xs : List Value} (hl : xs.length = n * sz) (hcap : n ≤ cap) (hm : cap ≤ maxLen) (hsz : 0 < sz) (h : ∀ j u, xs[j]? = some u → w.cell? (a.add j) = some u) : RdIs w (.slice (some a) n cap) sz n xs := by
  refine ⟨some a, cap, rfl, hcap, hm, hl, fun hn => ?_⟩
  have h0 : 0 < xs.length := by rw [hl]; exact Nat.mul_pos hn hsz
  have h1 := h 0 _ (List.getElem?_eq_getElem h0)
  have e0 : a.add 0 = a := by simp [Addr.add]
  rw [e0] at h1
  obtain ⟨h2, h3⟩ := cell_spot h1
  refine ⟨a.block, a.off, ?_, h3, fun j u hu => ?_⟩
  · cases a; simp at h2; subst h2; rfl
  · have := h j u hu
    cases a with
    | mk b o s => simp only at h2; subst h2; rwa [add_addr] at this
theorem open_rdZ {H : Type} {enc : TypeId × Value → H} {P : Program} {w : World} {base : Nat} {spare : Nat → Bool} {held : Bool} {t e : TypeId} {fuel : Nat} {cs : List Value} {x : DataW H × List MemPlace} (ht : P.underlying t = some (.slice e)) (he : P.underlying e = some (.int .i64)) (hc : P.cellsOf e = 1)
    (h : DataW.trod enc P w base spare held fuel t cs = some x) : ∃ v, ∃ l : List Int, cs = [v] ∧ RdIs w v 1 l.length (zK.all l) ∧ ∀ z ∈ l, (Lit.int .i64 z).wf = true := by
  have hz : ∀ l : List Int, zK.all l = l.map (Value.int .i64) := fun l => by
    induction l with
    | nil => rfl
    | cons x l ih => rw [Ek.all_cons, ih]; rfl
  rcases open_ints ht he hc h with ⟨rfl, rfl⟩ | ⟨a, len, cap, zs, rfl, hb, hl, hm, hzl, rfl, hcell, hwf⟩
  · exact ⟨_, [], rfl, ⟨none, 0, rfl, Nat.le_refl _, Nat.zero_le _, rfl, fun h => absurd h (Nat.lt_irrefl _)⟩, by simp⟩
  · have hle : len ≤ zs.length := by rw [hzl]; split <;> omega
    have hlen : (zs.take len).length = len := by rw [List.length_take]; omega
    refine ⟨_, zs.take len, rfl, ?_, fun z hz => hwf z (List.mem_of_mem_take hz)⟩
    rw [hlen, hz]
    refine rd_of_cells (by simp; omega) hl hm (by omega) fun j u hu => ?_
    have hj : j < len := by have := (List.getElem?_eq_some_iff.1 hu).1; simp at this; omega
    rw [hcell j (by omega), ← hu]
    simp [hj, List.getD, List.getElem?_eq_getElem (show j < zs.length by omega)]
end Go.Proofs.YtbolanigdkgbdaaGreat
namespace Go.Proofs.YtbolanigdkgbdaaGreat
open Go Go.RowKit Go.ChangeShapes Go.WideShapes Go.Deep Go.Joins
set_option linter.unusedVariables false
set_option maxRecDepth 100000
section
variable {H : Type} {enc : TypeId × Value → H} {P : Program} {w : World} {base : Nat} {spare : Nat → Bool} {held : Bool}
theorem open_rdK {α : Type} [Inhabited α] (k : Ek α) (φ : α → Prop) {t e : TypeId} {fuel : Nat} {cs : List Value} {x : DataW H × List MemPlace} (ht : P.underlying t = some (.slice e)) (ce : P.cellsOf e = k.sz) (h0 : 0 < k.sz)
    (hE : ∀ n cs' y, cs'.length = k.sz → DataW.trod enc P w base spare held n e cs' = some y → ∃ q, cs' = k.enc q ∧ φ q) (h : DataW.trod enc P w base spare held fuel t cs = some x) : ∃ v, ∃ l : List α, cs = [v] ∧ RdIs w v k.sz l.length (k.all l) ∧ ∀ z ∈ l, φ z := by
  rcases open_slice ht h with ⟨rfl, rfl⟩ | ⟨a, len, cap, m, n, D, Pl, rfl, hb, hl, hm, hmm, rfl, hx⟩
  · exact ⟨_, [], rfl, ⟨none, 0, rfl, Nat.le_refl _, Nat.zero_le _, by simp [Ek.all], fun h => absurd h (Nat.lt_irrefl _)⟩, by simp⟩
  · have hlm : len ≤ m := by rw [hmm]; split <;> omega
    have each : ∀ i, i < m → ∃ q : α, (∀ c u, (k.enc q)[c]? = some u → w.cell? (a.add (i * k.sz + c)) = some u) ∧ φ q := by
      intro i hi
      obtain ⟨cs', h1, h2⟩ := hx i hi
      rw [ce] at h1
      obtain ⟨_, hlen, hcell⟩ := World.cells?_some h1
      obtain ⟨q, rfl, hφ⟩ := hE _ _ _ hlen h2
      refine ⟨q, fun c u hu => ?_, hφ⟩
      have hc : c < k.sz := by have := (List.getElem?_eq_some_iff.1 hu).1; rwa [k.len] at this
      have := hcell c hc
      rw [add_add] at this
      rw [this]; exact hu
    obtain ⟨q, hq⟩ := choose_lt each
    refine ⟨_, (List.range len).map q, rfl, ?_, fun z hz => ?_⟩
    · rw [List.length_map, List.length_range]
      refine rd_of_cells (by rw [k.all_length]; simp) hl hm h0 fun j u hu => ?_
      have hj : j < len * k.sz := by have := (List.getElem?_eq_some_iff.1 hu).1; rw [k.all_length] at this; simpa using this
      obtain ⟨i, c, hi, hc, rfl⟩ : ∃ i c, i < len ∧ c < k.sz ∧ j = i * k.sz + c := ⟨j / k.sz, j % k.sz, (Nat.div_lt_iff_lt_mul h0).2 hj, Nat.mod_lt _ h0, by rw [Nat.mul_comm]; exact (Nat.div_add_mod _ _).symm⟩
      have hg : gE ((List.range len).map q) (i : Int) = q i := by
        unfold gE
        rw [Int.toNat_natCast, List.getD_eq_getElem?_getD, List.getElem?_map, List.getElem?_range hi]; rfl
      have hlt : c < (k.enc (q i)).length := by rw [k.len]; exact hc
      have h2 := Ek.all_get k ((List.range len).map q) (j := (i : Int)) c (u := (k.enc (q i))[c]'hlt) (by rw [hg]; exact List.getElem?_eq_getElem hlt) (by simp; omega)
      rw [Int.toNat_natCast] at h2
      have h3 := hu.symm.trans h2
      injection h3 with h3
      exact (hq i (by omega)).1 c u (by rw [h3]; exact List.getElem?_eq_getElem hlt)
    · obtain ⟨i, hi, rfl⟩ := List.mem_map.1 hz
      exact (hq i (by have := List.mem_range.1 hi; omega)).2
end
section
variable {H : Type} {enc : TypeId × Value → H} {w : World} {base : Nat} {spare : Nat → Bool} {held : Bool}
theorem open_op {n : Nat} {cs : List Value} {y : DataW H × List MemPlace} (hl : cs.length = 4) (h : DataW.trod enc Tryz.prog w base spare held n 110 cs = some y) : ∃ q, cs = opK.enc q := by
  obtain ⟨y0, y1, y2, y3, m, _, _, g0, g1, g2, g3⟩ := trod_struct4 Tryz.underlying110 h
  match cs, hl with
  | [v0, v1, v2, v3], _ =>
    have hc : Tryz.prog.cellsOf 3 = 1 := by kernel_rfl
    simp [hc] at g0 g1 g2 g3
    obtain ⟨n0, e0, _, _⟩ := DataW.trod_int Tryz.underlying3 g0
    obtain ⟨n1, e1, _, _⟩ := DataW.trod_int Tryz.underlying3 g1
    obtain ⟨n2, e2, _, _⟩ := DataW.trod_int Tryz.underlying3 g2
    obtain ⟨n3, e3, _, _⟩ := DataW.trod_int Tryz.underlying3 g3
    simp at e0 e1 e2 e3
    subst e0 e1 e2 e3
    exact ⟨⟨n0, n1, n2, n3⟩, rfl⟩
theorem open_poke {n : Nat} {cs : List Value} {y : DataW H × List MemPlace} (hl : cs.length = 2) (h : DataW.trod enc Tryz.prog w base spare held n 104 cs = some y) : ∃ q, cs = pK.enc q := by
  obtain ⟨y0, y1, m, _, _, g0, g1⟩ := trod_struct2 Tryz.underlying104 h
  match cs, hl with
  | [v0, v1], _ =>
    have hc : Tryz.prog.cellsOf 3 = 1 := by kernel_rfl
    simp [hc] at g0 g1
    obtain ⟨n0, e0, _, _⟩ := DataW.trod_int Tryz.underlying3 g0
    obtain ⟨n1, e1, _, _⟩ := DataW.trod_int Tryz.underlying3 g1
    simp at e0 e1
    subst e0 e1
    exact ⟨(n0, n1), rfl⟩
theorem open_ops {n : Nat} {cs : List Value} {y : DataW H × List MemPlace} (h : DataW.trod enc Tryz.prog w base spare held n 75 cs = some y) : ∃ v, ∃ l : List Op4, cs = [v] ∧ RdIs w v opK.sz l.length (opK.all l) := by
  obtain ⟨v, l, h1, h2, _⟩ := open_rdK opK (fun _ => True) Tryz.underlying75 (by kernel_rfl) (by decide) (fun n cs' y hl hy => by obtain ⟨q, hq⟩ := open_op hl hy; exact ⟨q, hq, trivial⟩) h
  exact ⟨v, l, h1, h2⟩
theorem open_pokes {n : Nat} {cs : List Value} {y : DataW H × List MemPlace} (h : DataW.trod enc Tryz.prog w base spare held n 51 cs = some y) : ∃ v, ∃ l : List (Int × Int), cs = [v] ∧ RdIs w v pK.sz l.length (pK.all l) := by
  obtain ⟨v, l, h1, h2, _⟩ := open_rdK pK (fun _ => True) Tryz.underlying51 (by kernel_rfl) (by decide) (fun n cs' y hl hy => by obtain ⟨q, hq⟩ := open_poke hl hy; exact ⟨q, hq, trivial⟩) h
  exact ⟨v, l, h1, h2⟩
theorem rd_one {v : Value} {sz m : Nat} {xs : List Value} (h : RdIs w v sz m xs) : v.oneCell' = true := by
  obtain ⟨A, cap, rfl, _⟩ := h; rfl
abbrev vlK : Ek (SV × List Op4) := ⟨fun x => [x.1.1], 1, fun _ => rfl, fun x v hv => by simp at hv; subst hv; exact x.1.2⟩
theorem vlK_all (l : List (SV × List Op4)) : vlK.all l = (l.map fun x => ((x.1.1, x.2) : Value × List Op4)).map (·.1) := by
  induction l with
  | nil => rfl
  | cons x l ih => rw [Ek.all_cons, ih]; rfl
theorem open_opss {n : Nat} {cs : List Value} {y : DataW H × List MemPlace} (h : DataW.trod enc Tryz.prog w base spare held n 24 cs = some y) : ∃ v, ∃ gs : opsRows, cs = [v] ∧ RdIs w v 1 gs.length (gs.map (·.1)) ∧ ∀ z ∈ gs, RdIs w z.1 opK.sz z.2.length (opK.all z.2) := by
  obtain ⟨v, l, h1, h2, h3⟩ := open_rdK vlK (fun q => RdIs w q.1.1 opK.sz q.2.length (opK.all q.2)) Tryz.underlying24 (by kernel_rfl) (by decide) (fun n cs' y hl hy => by
    obtain ⟨v, l, h1, h2⟩ := open_ops hy
    exact ⟨(⟨v, rd_one h2⟩, l), h1, h2⟩) h
  refine ⟨v, l.map fun x => (x.1.1, x.2), h1, ?_, fun z hz => ?_⟩
  · rw [List.length_map, ← vlK_all]; exact h2
  · obtain ⟨q, hq, rfl⟩ := List.mem_map.1 hz
    exact h3 q hq
theorem open_script {r : Reach} {b0 : Nat} {v : Value} {d : DataW H} {p : List MemPlace} (hv : Value.okWide Tryz.prog w r b0 27 v) (h : DataW.Trod enc Tryz.prog w base spare held 27 v d p) :
    ∃ (th cap wd ver : Int) (Ov Pv dv : Value) (gs : opsRows) (ps l0 : List Int), v = .agg #[.int .i64 th, .int .i64 cap, .int .i64 wd, .int .i64 ver, Ov, Pv, dv] ∧ (∀ e ∈ SCr dv l0 Pv ps Ov gs, e.holds w) := by
  obtain ⟨cs, rfl, hsz⟩ := okWide_struct Tryz.underlying27 hv
  obtain ⟨fuel, hf⟩ := h
  have hC : Tryz.prog.cellsOf 27 = 7 := by kernel_rfl
  rw [hC] at hsz
  obtain ⟨cs⟩ := cs
  match cs, hsz with
  | [c0, c1, c2, c3, c4, c5, c6], _ =>
    obtain ⟨y0, y1, y2, y3, n, _, _, g0, g1, g2, g3⟩ := trod_struct4 Tryz.underlying27 hf
    have hc0 : Tryz.prog.cellsOf 23 = 4 := by kernel_rfl
    have hc1 : Tryz.prog.cellsOf 24 = 1 := by kernel_rfl
    have hc2 : Tryz.prog.cellsOf 25 = 1 := by kernel_rfl
    have hci : Tryz.prog.cellsOf 3 = 1 := by kernel_rfl
    simp [Value.cells, hc0, hc1, hc2] at g0 g1 g2 g3
    obtain ⟨z0, z1, z2, z3, m, _, _, f0, f1, f2, f3⟩ := trod_struct4 Tryz.underlying23 g0
    simp [hci] at f0 f1 f2 f3
    obtain ⟨th, e0, _, _⟩ := DataW.trod_int Tryz.underlying3 f0
    obtain ⟨cap, e1, _, _⟩ := DataW.trod_int Tryz.underlying3 f1
    obtain ⟨wd, e2, _, _⟩ := DataW.trod_int Tryz.underlying3 f2
    obtain ⟨ver, e3, _, _⟩ := DataW.trod_int Tryz.underlying3 f3
    simp at e0 e1 e2 e3
    subst e0 e1 e2 e3
    obtain ⟨Ov, gs, e4, rO, rG⟩ := open_opss g1
    obtain ⟨Pv, ps, e5, rP, _⟩ := open_rdZ Tryz.underlying25 Tryz.underlying3 hci g2
    obtain ⟨dv, l0, e6, rD, _⟩ := open_rdZ Tryz.underlying25 Tryz.underlying3 hci g3
    simp at e4 e5 e6
    subst e4 e5 e6
    refine ⟨th, cap, wd, ver, _, _, _, gs, ps, l0, rfl, fun e he => ?_⟩
    rcases List.mem_cons.1 he with rfl | he
    · exact rD
    · rcases List.mem_cons.1 he with rfl | he
      · exact rP
      · rcases List.mem_cons.1 he with rfl | he
        · exact rO
        · obtain ⟨q, hq, rfl⟩ := List.mem_map.1 he
          exact rG q hq
end
end Go.Proofs.YtbolanigdkgbdaaGreat
