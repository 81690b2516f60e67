/- P2 -/
import Derived.Test.YtimclnhklaldfaaP1
import Derived.Test.YtimclnhklaldfaaEngM
namespace Go.Proofs.Ytimclnhklaldfaa
open Go Go.RowKit
set_option maxRecDepth 10000
set_option linter.unusedVariables false



/-- Words are laid, in some order. -/
def pkA (ml : List (Int × Int)) (seen : List Nat) (A : Ar) : Ar := seen.foldl (fun (A : Ar) (j : Nat) => A.poke (gE ml (j : Int)).1 (gE ml (j : Int)).2) A
theorem pkA_snoc {ml : List (Int × Int)} {seen : List Nat} {A : Ar} {j : Nat} : pkA ml (seen ++ [j]) A = (pkA ml seen A).poke (gE ml (j : Int)).1 (gE ml (j : Int)).2 := by simp [pkA, List.foldl_append]
theorem pkA_len {ml : List (Int × Int)} {seen : List Nat} {A : Ar} : (pkA ml seen A).w.length = A.w.length := by
  unfold pkA
  induction seen generalizing A with
  | nil => rfl
  | cons x seen ih => rw [List.foldl_cons, ih, Ar.poke_len]
/-- A new arena with one chunk. -/
def mkA (a b : Int) (c : Nat) : Ar := (((⟨List.replicate c 0, 0, 0, 0, 0, 0, 0, 0, 0, 0, false⟩ : Ar).poke 2 (21 + a + 3 * b)).poke (7 + a) (-1)).poke (9 + a) (28 + 2 * a)
def IsMk (a b : Int) (c : Nat) : Value → Hp → Hp → Prop := fun v N H => ∃ ba wv x, x = mkA a b c ∧ v = .tuple #[.pointer (some ⟨ba, 0, none⟩), .nilIface] ∧ N = [arB ba wv x, arW wv c x] ∧ H = []
theorem Ar.poke_yes {A : Ar} {i x : Int} (h : A.hit i = true) : A.poke i x = ⟨A.w.set i.toNat x, A.d0, A.d1, A.d2, A.d3, A.d4, A.k, A.at_, A.old, A.nw, A.ok⟩ := by unfold Ar.poke; rw [if_pos h]
theorem Ar.poke_no {A : Ar} {i x : Int} (h : ¬ A.hit i = true) : A.poke i x = A := by unfold Ar.poke; rw [if_neg h]
theorem Ar.poke_hit (A : Ar) (i x j : Int) : (A.poke i x).hit j = A.hit j := by unfold Ar.hit; rw [Ar.poke_len]
theorem Ar.poke_comm {A : Ar} {i j x y : Int} (h : i ≠ j) : (A.poke i x).poke j y = (A.poke j y).poke i x := by
  by_cases h1 : A.hit i = true
  · by_cases h2 : A.hit j = true
    · have e1 := Ar.poke_yes (A := A.poke i x) (i := j) (x := y) (by rw [Ar.poke_hit]; exact h2)
      have e2 := Ar.poke_yes (A := A.poke j y) (i := i) (x := x) (by rw [Ar.poke_hit]; exact h1)
      rw [e1, e2, Ar.poke_yes h1, Ar.poke_yes h2]
      obtain ⟨q1, _⟩ := Ar.hit_yes h1
      obtain ⟨q2, _⟩ := Ar.hit_yes h2
      show (⟨(A.w.set i.toNat x).set j.toNat y, _, _, _, _, _, _, _, _, _, _⟩ : Ar) = ⟨(A.w.set j.toNat y).set i.toNat x, _, _, _, _, _, _, _, _, _, _⟩
      rw [List.set_comm _ _ (by omega : i.toNat ≠ j.toNat)]
    · rw [Ar.poke_no (A := A.poke i x) (by rw [Ar.poke_hit]; exact h2), Ar.poke_no h2]
  · rw [Ar.poke_no h1, Ar.poke_no (A := A.poke j y) (by rw [Ar.poke_hit]; exact h1)]
theorem mk_all {a b : Int} {c : Nat} {A0 : Ar} {ml : List (Int × Int)} {seen : List Nat} (h1 : 1 ≤ a) (hA0 : (⟨List.replicate c 0, 0, 0, 0, 0, 0, 0, 0, 0, 0, false⟩ : Ar) = A0) (hml : ml.Perm [((2 : Int), 21 + a + 3 * b), (7 + a + 0, (-1 : Int)), (7 + a + 2, 2 * (14 + a))]) (hn : seen.Nodup) (hs : ∀ j ∈ seen, j < ml.length) (hall : ∀ j, j < ml.length → j ∈ seen) : pkA ml seen A0 = mkA a b c := by
  have e1 : pkA ml seen A0 = (seen.map fun j : Nat => gE ml (j : Int)).foldl (fun A e => A.poke e.1 e.2) A0 := by unfold pkA; rw [List.foldl_map]
  have hp : seen.Perm (List.range ml.length) := (List.perm_ext_iff_of_nodup hn List.nodup_range).2 fun j => by
    rw [List.mem_range]; exact ⟨hs j, hall j⟩
  have e2 : (List.range ml.length).map (fun j : Nat => gE ml (j : Int)) = ml := by
    apply List.ext_getElem
    · simp
    · intro i h1 h2; simp [gE, h2]
  have hp2 : (seen.map fun j : Nat => gE ml (j : Int)).Perm [((2 : Int), 21 + a + 3 * b), (7 + a + 0, (-1 : Int)), (7 + a + 2, 2 * (14 + a))] := by
    have := hp.map (fun j : Nat => gE ml (j : Int))
    rw [e2] at this
    exact this.trans hml
  rw [e1, hp2.foldl_eq' fun x hx y hy z => ?_]
  · subst hA0
    show ((Ar.poke _ 2 _).poke (7 + a + 0) (-1)).poke (7 + a + 2) (2 * (14 + a)) = mkA a b c
    unfold mkA
    rw [show 7 + a + 0 = 7 + a by omega, show 7 + a + 2 = 9 + a by omega, show 2 * (14 + a) = 28 + 2 * a by omega]
  · by_cases he : x.1 = y.1
    · have hx' := hp2.mem_iff.1 hx
      have hy' := hp2.mem_iff.1 hy
      simp at hx' hy'
      rcases hx' with rfl | rfl | rfl <;> rcases hy' with rfl | rfl | rfl <;> first | rfl | (exfalso; simp at he; omega)
    · exact Ar.poke_comm he
theorem p_Make {a b d : Int} {c : Nat} (hc : okC a b c d) : Fn Try.prog 7 [.agg #[.int .i64 a, .int .i64 b, .int .i64 (c : Int), .int .i64 d]] ([]) ([]) (IsMk a b c) := by
  refine Fn.enter Try.func7 (by kernel_rfl) rfl (n := 40) rfl rfl (fun w => ?_)
  have hc0 := hc
  obtain ⟨h1, h2, h3, h4, h5, h6, h7, h8, h9⟩ := hc
  refine At.seq ?_
  refine At.plain [(false, 0), (false, 1), (false, 2)] rfl ?_
  refine At.box rfl rfl rfl (.t rfl) (fun b1 hb1 => ⟨.all, ?_⟩)
  refine At.e rfl rfl rfl rfl .all (R.assign .c) ?_
  refine At.e rfl rfl rfl rfl .all (R.assign .c) ?_
  refine At.nil ?_
  refine At.tN ?_
  refine At.seq ?_
  refine At.seq ?_
  refine At.plain [(false, 0), (false, 1), (false, 2)] rfl ?_
  refine At.e rfl rfl rfl rfl .all (R.loadAgg (vs := [_, _, _, _]) Try.underlying26 rfl sz_26 (.t rfl) (by exact csS M0 ⟨rfl, rfl, rfl, rfl, trivial⟩)) ?_
  refine At.callVR rfl rfl rfl (.cons (.t rfl) .nil) (by (exact .nil)) (fun hg => p_Is hc0) .all ?_
  refine At.e rfl rfl rfl rfl .all (R.assign (.t rfl)) ?_
  refine At.nil ?_
  refine At.tN ?_
  refine At.seq ?_
  refine At.plain [(false, 0), (false, 1)] rfl ?_
  refine At.e rfl rfl rfl rfl .all (R.move (.t rfl)) ?_
  refine At.e rfl rfl rfl rfl .all (R.neqNilI Try.underlying30 (.t rfl)) ?_
  refine At.nil ?_
  refine At.tN ?_
  refine At.condF (.t rfl) ?_
  refine At.skip ?_
  refine At.tN ?_
  refine At.seq ?_
  refine At.plain [(false, 0), (false, 1), (false, 2), (false, 3)] rfl ?_
  refine At.e rfl rfl rfl rfl .all (R.fieldAddr fo_26_2 (.t rfl)) ?_
  refine At.e rfl rfl rfl rfl .all (R.load Try.underlying3 rfl (.t rfl) (by exact cS M0 rfl)) ?_
  refine At.callP (fst := []) (cap := []) rfl rfl rfl Ev.f (.cons (.t rfl) .nil) rfl (a_New (n := c) (by omega)) (fun _ h => nomatch h) (fun v N1 H1 hR => ?_); obtain ⟨ba, wv, rfl, rfl, rfl⟩ := hR; refine ⟨rfl, .all, ?_⟩; generalize hA0 : (⟨List.replicate c 0, 0, 0, 0, 0, 0, 0, 0, 0, 0, false⟩ : Ar) = A0
  refine At.e rfl rfl rfl rfl .all (R.assign (.t rfl)) ?_
  refine At.nil ?_
  refine At.tN ?_
  refine At.seq ?_
  refine At.seq ?_
  refine At.dag [(true, 1), (true, 4), (true, 8), (true, 11)] 13 #[false, true, false, false, true, false, false, false, true, false, false, true, false, false, false, false, false] ([.blk b1 (.cells #[.int .i64 a, .int .i64 b, .int .i64 (c : Int), .int .i64 d] 26)]) (by (exact keepOf (by (apply List.Sublist.cons; apply List.Sublist.cons; exact List.Sublist.refl _)))) (by kernel_rfl) (by kernel_rfl) (fun G hnode hdone => ?_)
  have g0 : ∀ (bm q : Nat) (ml : List (Int × Int)) (hml : ml.Perm [((2 : Int), 21 + a + 3 * b), (7 + a + 0, (-1 : Int)), (7 + a + 2, 2 * (14 + a))]), At w 40 [] [(16, true, .map (some bm)), (17, true, .agg #[.int .i64 a, .int .i64 b, .int .i64 (c : Int), .int .i64 d]), (18, true, .int .i64 (21 + a + 3 * b)), (19, true, .agg #[.int .i64 a, .int .i64 b, .int .i64 (c : Int), .int .i64 d]), (20, true, .int .i64 (7 + a)), (21, true, .int .i64 (7 + a + 0)), (22, true, .agg #[.int .i64 a, .int .i64 b, .int .i64 (c : Int), .int .i64 d]), (23, true, .int .i64 (7 + a)), (24, true, .int .i64 (7 + a + 2)), (25, true, .agg #[.int .i64 a, .int .i64 b, .int .i64 (c : Int), .int .i64 d]), (26, true, .int .i64 (14 + a)), (27, true, .int .i64 (2 * (14 + a))), (28, true, .map (some bm)), (29, true, .pointer (some ⟨q, 0, none⟩)), (1, true, .pointer (some ⟨b1, 0, none⟩)), (5, true, .pointer (some ⟨ba, 0, none⟩))] (itE q bm ml [] :: mapE kfZ vfZ bm ml :: [arB ba wv A0, arW wv c A0, .blk b1 (.cells #[.int .i64 a, .int .i64 b, .int .i64 (c : Int), .int .i64 d] 26)]) ([]) (G 0 #[true, true, true, true, true, true, true, true, true, true, true, true, true, true, true, true, true]) := fun bm q ml hml => by
    refine hdone _ _ _ (by kernel_rfl) ?_
    refine At.tN ?_
    refine At.block ?_
    refine At.loop1 (fun (seen : List Nat) => seen.Nodup ∧ ∀ j ∈ seen, j < ml.length) (fun (seen : List Nat) => ml.length - seen.length) (fun (seen : List Nat) => [(5, true, .pointer (some ⟨ba, 0, none⟩)), (29, true, .pointer (some ⟨q, 0, none⟩))]) (fun (seen : List Nat) => [itE q bm ml seen, mapE kfZ vfZ bm ml, arB ba wv (pkA ml seen A0), arW wv c (pkA ml seen A0)]) (fun (seen : List Nat) => []) ([]) ⟨List.nodup_nil, by simp⟩ (.cons rfl (.cons rfl .nil)) (by (apply List.Sublist.cons_cons; apply List.Sublist.cons_cons; apply List.Sublist.cons_cons; apply List.Sublist.cons_cons; exact List.nil_sublist _)) rfl (fun seen hi => ?_)
    obtain ⟨hs1, hs2⟩ := hi; have hsb := nodup_bound _ _ hs1 hs2
    refine At.seq ?_
    refine At.plain [(false, 0), (false, 1)] rfl ?_
    refine At.mapNextO (kf := kfZ) (vf := vfZ) (ml := ml) (seen := seen) rfl rfl rfl (.t rfl) M1 (fun o => .here) (fun o ho => ⟨.all, ?_⟩)
    refine At.e rfl rfl rfl rfl .all (R.extractNext (.t rfl)) ?_
    refine At.nil ?_
    refine At.tN ?_
    refine At.seq ?_
    refine At.cond (.t rfl) (fun c2 => ?_) (fun c2 => ?_)
    · obtain ⟨j, rfl⟩ : ∃ j, o = some j := (by cases o with | none => simp at c2 | some j => exact ⟨j, rfl⟩); obtain ⟨hj1, hj2⟩ := ho.2 j rfl
      refine At.skip ?_
      refine At.tN ?_
      refine At.block ?_
      refine At.seq ?_
      refine At.plain [(false, 0), (false, 1), (false, 2), (false, 3), (false, 4)] rfl ?_
      refine At.e rfl rfl rfl rfl .all (R.entry (kf := kfZ) (vf := vfZ) (ml := ml) (seen := seen) (j := j) (.t rfl) (Holds.st M1) (Holds.st M0) hj1) ?_
      refine At.e rfl rfl rfl rfl .all (R.extract (.t rfl) rfl) ?_
      refine At.e rfl rfl rfl rfl .all (R.extract (.t rfl) rfl) ?_
      refine At.e rfl rfl rfl rfl .all (R.assign (.t rfl)) ?_
      refine At.e rfl rfl rfl rfl .all (R.assign (.t rfl)) ?_
      refine At.nil ?_
      refine At.tN ?_
      refine At.plain [(false, 0), (false, 1), (false, 2), (false, 3)] rfl ?_
      refine At.e rfl rfl rfl rfl .all (R.move (.t rfl)) ?_
      refine At.e rfl rfl rfl rfl .all (R.move (.t rfl)) ?_
      refine At.e rfl rfl rfl rfl .all (R.move (.t rfl)) ?_
      refine At.callM (fst := []) (cap := []) rfl rfl rfl Ev.f (.cons (.t rfl) (.cons (.t rfl) (.cons (.t rfl) .nil))) rfl (.n (.skip (.skip (.take (.take .nil))))) .nil (a_Poke (n := c) (a := (pkA ml seen A0)) (by rw [pkA_len, ← hA0]; exact List.length_replicate) (by omega)) rfl .nil ⟨.all, ?_⟩
      refine At.nil ?_
      refine At.bN ?_
      refine At.re (N' := [itE q bm ml (seen ++ [j]), mapE kfZ vfZ bm ml, arB ba wv (pkA ml (seen ++ [j]) A0), arW wv c (pkA ml (seen ++ [j]) A0)]) (by rw [pkA_snoc]; rfl) ?_
      refine At.tN ?_
      exact At.again1 (seen ++ [j]) ⟨(List.nodup_append.2 ⟨hs1, by simp, fun x hx y hy => by simp at hy; subst hy; intro e; subst e; exact hj2 hx⟩), fun x hx => by rcases List.mem_append.1 hx with h | h; exact hs2 x h; simp at h; subst h; exact hj1⟩ (by have h := nodup_bound ml.length (seen ++ [j]) (List.nodup_append.2 ⟨hs1, by simp, fun x hx y hy => by simp at hy; subst hy; intro e; subst e; exact hj2 hx⟩) (fun x hx => by rcases List.mem_append.1 hx with h | h; exact hs2 x h; simp at h; subst h; exact hj1); rw [List.length_append] at *; simp at *; omega) (.cons rfl (.cons rfl .nil)) (by (exact List.Sublist.refl _)) rfl
    · have hon : o = none := (by cases o with | none => rfl | some j => simp at c2); have hall := ho.1 hon; subst hon
      refine At.exit ?_
      refine At.tE ?_
      refine At.tE ?_
      refine At.bE ?_
      refine At.tN ?_
      refine At.seq ?_
      refine At.plain [(false, 0), (false, 1), (false, 2)] rfl ?_
      refine At.e rfl rfl rfl rfl .all (R.move (.t rfl)) ?_
      refine At.e rfl rfl rfl rfl .all (R.assign (.t rfl)) ?_
      refine At.e rfl rfl rfl rfl .all (R.assign .c) ?_
      refine At.nil ?_
      refine At.tN ?_
      refine At.ret ?_
      exact At.final2 (N' := [arB ba wv (pkA ml seen A0), arW wv c (pkA ml seen A0)]) rfl (.t rfl) (.t rfl) (by (apply List.Sublist.cons; apply List.Sublist.cons; exact List.Sublist.refl _)) (⟨ba, wv, pkA ml seen A0, mk_all h1 hA0 hml hs1 hs2 hall, rfl, rfl, rfl⟩)
  have g1 : ∀ (bm : Nat) (ml : List (Int × Int)) (hml : ml.Perm [((2 : Int), 21 + a + 3 * b), (7 + a + 0, (-1 : Int)), (7 + a + 2, 2 * (14 + a))]), At w 40 [] [(16, true, .map (some bm)), (17, true, .agg #[.int .i64 a, .int .i64 b, .int .i64 (c : Int), .int .i64 d]), (18, true, .int .i64 (21 + a + 3 * b)), (19, true, .agg #[.int .i64 a, .int .i64 b, .int .i64 (c : Int), .int .i64 d]), (20, true, .int .i64 (7 + a)), (21, true, .int .i64 (7 + a + 0)), (22, true, .agg #[.int .i64 a, .int .i64 b, .int .i64 (c : Int), .int .i64 d]), (23, true, .int .i64 (7 + a)), (24, true, .int .i64 (7 + a + 2)), (25, true, .agg #[.int .i64 a, .int .i64 b, .int .i64 (c : Int), .int .i64 d]), (26, true, .int .i64 (14 + a)), (27, true, .int .i64 (2 * (14 + a))), (28, true, .map (some bm)), (1, true, .pointer (some ⟨b1, 0, none⟩)), (5, true, .pointer (some ⟨ba, 0, none⟩))] (mapE kfZ vfZ bm ml :: [arB ba wv A0, arW wv c A0, .blk b1 (.cells #[.int .i64 a, .int .i64 b, .int .i64 (c : Int), .int .i64 d] 26)]) ([]) (G 1 #[true, true, true, true, true, true, true, true, true, true, true, true, true, true, true, true, false]) := fun bm ml hml => by
    refine hnode _ _ _ _ [(16, [], 0, #[true, true, true, true, true, true, true, true, true, true, true, true, true, true, true, true, true])] (by kernel_rfl) (Cl.kept (by (exact keepOf (by (apply List.Sublist.cons; apply List.Sublist.cons; apply List.Sublist.cons; exact List.Sublist.refl _))))) ?_
    · skip
      refine At.rangeMap (kf := kfZ) (vf := vfZ) (ml := ml) rfl rfl rfl Try.underlying55 (.t rfl) M0 (fun b2 hb2 => ⟨(Cl.kept (by (exact keepOf (by (apply List.Sublist.cons; apply List.Sublist.cons; apply List.Sublist.cons; apply List.Sublist.cons; exact List.Sublist.refl _))))), ?_⟩)
      refine At.nil ?_
      exact At.weak (Sub.look (.cons rfl (.cons rfl (.cons rfl (.cons rfl (.cons rfl (.cons rfl (.cons rfl (.cons rfl (.cons rfl (.cons rfl (.cons rfl (.cons rfl (.cons rfl (.cons rfl (.cons rfl (.cons rfl .nil))))))))))))))))) (by (exact List.Sublist.refl _)) (g0 bm b2 ml hml)
  have g2 : ∀ (bm : Nat) (ml : List (Int × Int)) (hml : ml.Perm [((2 : Int), 21 + a + 3 * b), (7 + a + 0, (-1 : Int))]), At w 40 [] [(16, true, .map (some bm)), (17, true, .agg #[.int .i64 a, .int .i64 b, .int .i64 (c : Int), .int .i64 d]), (18, true, .int .i64 (21 + a + 3 * b)), (19, true, .agg #[.int .i64 a, .int .i64 b, .int .i64 (c : Int), .int .i64 d]), (20, true, .int .i64 (7 + a)), (21, true, .int .i64 (7 + a + 0)), (22, true, .agg #[.int .i64 a, .int .i64 b, .int .i64 (c : Int), .int .i64 d]), (23, true, .int .i64 (7 + a)), (24, true, .int .i64 (7 + a + 2)), (25, true, .agg #[.int .i64 a, .int .i64 b, .int .i64 (c : Int), .int .i64 d]), (26, true, .int .i64 (14 + a)), (27, true, .int .i64 (2 * (14 + a))), (1, true, .pointer (some ⟨b1, 0, none⟩)), (5, true, .pointer (some ⟨ba, 0, none⟩))] (mapE kfZ vfZ bm ml :: [arB ba wv A0, arW wv c A0, .blk b1 (.cells #[.int .i64 a, .int .i64 b, .int .i64 (c : Int), .int .i64 d] 26)]) ([]) (G 3 #[true, true, true, true, true, true, true, true, true, true, true, true, true, true, false, false, false]) := fun bm ml hml => by
    refine hnode _ _ _ _ [(14, [(true, 15)], 1, #[true, true, true, true, true, true, true, true, true, true, true, true, true, true, true, true, false])] (by kernel_rfl) (Cl.kept (by (exact keepOf (by (apply List.Sublist.cons; apply List.Sublist.cons; apply List.Sublist.cons; exact List.Sublist.refl _))))) ?_
    · skip
      refine At.mapIns (kf := kfZ) (vf := vfZ) (ml := ml) (k := ((7 + a + 2, 2 * (14 + a))).1) (v := ((7 + a + 2, 2 * (14 + a))).2) rfl rfl Try.underlying55 (keyOk_int Try.underlying3) (.t rfl) (.t rfl) (.t rfl) (.n U0) ⟨(Cl.kept (by (exact keepOf (by (apply List.Sublist.cons; apply List.Sublist.cons; apply List.Sublist.cons; exact List.Sublist.refl _))))), ?_⟩
      refine At.s rfl rfl rfl rfl (Cl.kept (by (exact keepOf (by (apply List.Sublist.cons; apply List.Sublist.cons; apply List.Sublist.cons; exact List.Sublist.refl _))))) (R.move (.t rfl)) ?_
      refine At.nil ?_
      exact At.weak (Sub.look (.cons rfl (.cons rfl (.cons rfl (.cons rfl (.cons rfl (.cons rfl (.cons rfl (.cons rfl (.cons rfl (.cons rfl (.cons rfl (.cons rfl (.cons rfl (.cons rfl (.cons rfl .nil)))))))))))))))) (by (exact List.Sublist.refl _)) (g1 bm (aput ml ((7 + a + 2, 2 * (14 + a))).1 ((7 + a + 2, 2 * (14 + a))).2) ((perm_put hml (by intro e he; (simp at he; rcases he with rfl | rfl <;> simp <;> omega))).trans (by exact .refl _)))
  have g3 : ∀ (bm : Nat) (ml : List (Int × Int)) (hml : ml.Perm [((2 : Int), 21 + a + 3 * b), (7 + a + 2, 2 * (14 + a))]), At w 40 [] [(16, true, .map (some bm)), (17, true, .agg #[.int .i64 a, .int .i64 b, .int .i64 (c : Int), .int .i64 d]), (18, true, .int .i64 (21 + a + 3 * b)), (19, true, .agg #[.int .i64 a, .int .i64 b, .int .i64 (c : Int), .int .i64 d]), (20, true, .int .i64 (7 + a)), (21, true, .int .i64 (7 + a + 0)), (22, true, .agg #[.int .i64 a, .int .i64 b, .int .i64 (c : Int), .int .i64 d]), (23, true, .int .i64 (7 + a)), (24, true, .int .i64 (7 + a + 2)), (25, true, .agg #[.int .i64 a, .int .i64 b, .int .i64 (c : Int), .int .i64 d]), (26, true, .int .i64 (14 + a)), (27, true, .int .i64 (2 * (14 + a))), (1, true, .pointer (some ⟨b1, 0, none⟩)), (5, true, .pointer (some ⟨ba, 0, none⟩))] (mapE kfZ vfZ bm ml :: [arB ba wv A0, arW wv c A0, .blk b1 (.cells #[.int .i64 a, .int .i64 b, .int .i64 (c : Int), .int .i64 d] 26)]) ([]) (G 3 #[true, true, true, true, true, true, true, false, true, true, true, true, true, true, true, false, false]) := fun bm ml hml => by
    refine hnode _ _ _ _ [(7, [(true, 15)], 1, #[true, true, true, true, true, true, true, true, true, true, true, true, true, true, true, true, false])] (by kernel_rfl) (Cl.kept (by (exact keepOf (by (apply List.Sublist.cons; apply List.Sublist.cons; apply List.Sublist.cons; exact List.Sublist.refl _))))) ?_
    · skip
      refine At.mapIns (kf := kfZ) (vf := vfZ) (ml := ml) (k := ((7 + a + 0, (-1 : Int))).1) (v := ((7 + a + 0, (-1 : Int))).2) rfl rfl Try.underlying55 (keyOk_int Try.underlying3) (.t rfl) (.t rfl) .c (.n U0) ⟨(Cl.kept (by (exact keepOf (by (apply List.Sublist.cons; apply List.Sublist.cons; apply List.Sublist.cons; exact List.Sublist.refl _))))), ?_⟩
      refine At.s rfl rfl rfl rfl (Cl.kept (by (exact keepOf (by (apply List.Sublist.cons; apply List.Sublist.cons; apply List.Sublist.cons; exact List.Sublist.refl _))))) (R.move (.t rfl)) ?_
      refine At.nil ?_
      exact At.weak (Sub.look (.cons rfl (.cons rfl (.cons rfl (.cons rfl (.cons rfl (.cons rfl (.cons rfl (.cons rfl (.cons rfl (.cons rfl (.cons rfl (.cons rfl (.cons rfl (.cons rfl (.cons rfl .nil)))))))))))))))) (by (exact List.Sublist.refl _)) (g1 bm (aput ml ((7 + a + 0, (-1 : Int))).1 ((7 + a + 0, (-1 : Int))).2) ((perm_put hml (by intro e he; (simp at he; rcases he with rfl | rfl <;> simp <;> omega))).trans (by exact perm_xzy)))
  have g4 : ∀ (bm : Nat) (ml : List (Int × Int)) (hml : ml.Perm [(7 + a + 0, (-1 : Int)), (7 + a + 2, 2 * (14 + a))]), At w 40 [] [(16, true, .map (some bm)), (17, true, .agg #[.int .i64 a, .int .i64 b, .int .i64 (c : Int), .int .i64 d]), (18, true, .int .i64 (21 + a + 3 * b)), (19, true, .agg #[.int .i64 a, .int .i64 b, .int .i64 (c : Int), .int .i64 d]), (20, true, .int .i64 (7 + a)), (21, true, .int .i64 (7 + a + 0)), (22, true, .agg #[.int .i64 a, .int .i64 b, .int .i64 (c : Int), .int .i64 d]), (23, true, .int .i64 (7 + a)), (24, true, .int .i64 (7 + a + 2)), (25, true, .agg #[.int .i64 a, .int .i64 b, .int .i64 (c : Int), .int .i64 d]), (26, true, .int .i64 (14 + a)), (27, true, .int .i64 (2 * (14 + a))), (1, true, .pointer (some ⟨b1, 0, none⟩)), (5, true, .pointer (some ⟨ba, 0, none⟩))] (mapE kfZ vfZ bm ml :: [arB ba wv A0, arW wv c A0, .blk b1 (.cells #[.int .i64 a, .int .i64 b, .int .i64 (c : Int), .int .i64 d] 26)]) ([]) (G 3 #[true, true, true, false, true, true, true, true, true, true, true, true, true, true, true, false, false]) := fun bm ml hml => by
    refine hnode _ _ _ _ [(3, [(true, 15)], 1, #[true, true, true, true, true, true, true, true, true, true, true, true, true, true, true, true, false])] (by kernel_rfl) (Cl.kept (by (exact keepOf (by (apply List.Sublist.cons; apply List.Sublist.cons; apply List.Sublist.cons; exact List.Sublist.refl _))))) ?_
    · skip
      refine At.mapIns (kf := kfZ) (vf := vfZ) (ml := ml) (k := (((2 : Int), 21 + a + 3 * b)).1) (v := (((2 : Int), 21 + a + 3 * b)).2) rfl rfl Try.underlying55 (keyOk_int Try.underlying3) (.t rfl) .c (.t rfl) (.n U0) ⟨(Cl.kept (by (exact keepOf (by (apply List.Sublist.cons; apply List.Sublist.cons; apply List.Sublist.cons; exact List.Sublist.refl _))))), ?_⟩
      refine At.s rfl rfl rfl rfl (Cl.kept (by (exact keepOf (by (apply List.Sublist.cons; apply List.Sublist.cons; apply List.Sublist.cons; exact List.Sublist.refl _))))) (R.move (.t rfl)) ?_
      refine At.nil ?_
      exact At.weak (Sub.look (.cons rfl (.cons rfl (.cons rfl (.cons rfl (.cons rfl (.cons rfl (.cons rfl (.cons rfl (.cons rfl (.cons rfl (.cons rfl (.cons rfl (.cons rfl (.cons rfl (.cons rfl .nil)))))))))))))))) (by (exact List.Sublist.refl _)) (g1 bm (aput ml (((2 : Int), 21 + a + 3 * b)).1 (((2 : Int), 21 + a + 3 * b)).2) ((perm_put hml (by intro e he; (simp at he; rcases he with rfl | rfl <;> simp <;> omega))).trans (by exact perm_yzx)))
  have g5 : ∀ (bm : Nat) (ml : List (Int × Int)) (hml : ml.Perm [((2 : Int), 21 + a + 3 * b)]), At w 40 [] [(16, true, .map (some bm)), (17, true, .agg #[.int .i64 a, .int .i64 b, .int .i64 (c : Int), .int .i64 d]), (18, true, .int .i64 (21 + a + 3 * b)), (19, true, .agg #[.int .i64 a, .int .i64 b, .int .i64 (c : Int), .int .i64 d]), (20, true, .int .i64 (7 + a)), (21, true, .int .i64 (7 + a + 0)), (22, true, .agg #[.int .i64 a, .int .i64 b, .int .i64 (c : Int), .int .i64 d]), (23, true, .int .i64 (7 + a)), (24, true, .int .i64 (7 + a + 2)), (25, true, .agg #[.int .i64 a, .int .i64 b, .int .i64 (c : Int), .int .i64 d]), (26, true, .int .i64 (14 + a)), (27, true, .int .i64 (2 * (14 + a))), (1, true, .pointer (some ⟨b1, 0, none⟩)), (5, true, .pointer (some ⟨ba, 0, none⟩))] (mapE kfZ vfZ bm ml :: [arB ba wv A0, arW wv c A0, .blk b1 (.cells #[.int .i64 a, .int .i64 b, .int .i64 (c : Int), .int .i64 d] 26)]) ([]) (G 4 #[true, true, true, true, true, true, true, false, true, true, true, true, true, true, false, false, false]) := fun bm ml hml => by
    refine hnode _ _ _ _ [(7, [], 3, #[true, true, true, true, true, true, true, true, true, true, true, true, true, true, false, false, false]), (14, [], 3, #[true, true, true, true, true, true, true, false, true, true, true, true, true, true, true, false, false])] (by kernel_rfl) (Cl.kept (by (exact keepOf (by (apply List.Sublist.cons; apply List.Sublist.cons; apply List.Sublist.cons; exact List.Sublist.refl _))))) ?_
    refine ⟨?_, ?_⟩
    · skip
      refine At.mapIns (kf := kfZ) (vf := vfZ) (ml := ml) (k := ((7 + a + 0, (-1 : Int))).1) (v := ((7 + a + 0, (-1 : Int))).2) rfl rfl Try.underlying55 (keyOk_int Try.underlying3) (.t rfl) (.t rfl) .c (.n U0) ⟨(Cl.kept (by (exact keepOf (by (apply List.Sublist.cons; apply List.Sublist.cons; apply List.Sublist.cons; exact List.Sublist.refl _))))), ?_⟩
      refine At.nil ?_
      exact At.weak (Sub.look (.cons rfl (.cons rfl (.cons rfl (.cons rfl (.cons rfl (.cons rfl (.cons rfl (.cons rfl (.cons rfl (.cons rfl (.cons rfl (.cons rfl (.cons rfl (.cons rfl .nil))))))))))))))) (by (exact List.Sublist.refl _)) (g2 bm (aput ml ((7 + a + 0, (-1 : Int))).1 ((7 + a + 0, (-1 : Int))).2) ((perm_put hml (by intro e he; (simp at he; subst he; simp; omega))).trans (by exact .refl _)))
    · skip
      refine At.mapIns (kf := kfZ) (vf := vfZ) (ml := ml) (k := ((7 + a + 2, 2 * (14 + a))).1) (v := ((7 + a + 2, 2 * (14 + a))).2) rfl rfl Try.underlying55 (keyOk_int Try.underlying3) (.t rfl) (.t rfl) (.t rfl) (.n U0) ⟨(Cl.kept (by (exact keepOf (by (apply List.Sublist.cons; apply List.Sublist.cons; apply List.Sublist.cons; exact List.Sublist.refl _))))), ?_⟩
      refine At.nil ?_
      exact At.weak (Sub.look (.cons rfl (.cons rfl (.cons rfl (.cons rfl (.cons rfl (.cons rfl (.cons rfl (.cons rfl (.cons rfl (.cons rfl (.cons rfl (.cons rfl (.cons rfl (.cons rfl .nil))))))))))))))) (by (exact List.Sublist.refl _)) (g3 bm (aput ml ((7 + a + 2, 2 * (14 + a))).1 ((7 + a + 2, 2 * (14 + a))).2) ((perm_put hml (by intro e he; (simp at he; subst he; simp; omega))).trans (by exact .refl _)))
  have g6 : ∀ (bm : Nat) (ml : List (Int × Int)) (hml : ml.Perm [(7 + a + 0, (-1 : Int))]), At w 40 [] [(16, true, .map (some bm)), (17, true, .agg #[.int .i64 a, .int .i64 b, .int .i64 (c : Int), .int .i64 d]), (18, true, .int .i64 (21 + a + 3 * b)), (19, true, .agg #[.int .i64 a, .int .i64 b, .int .i64 (c : Int), .int .i64 d]), (20, true, .int .i64 (7 + a)), (21, true, .int .i64 (7 + a + 0)), (22, true, .agg #[.int .i64 a, .int .i64 b, .int .i64 (c : Int), .int .i64 d]), (23, true, .int .i64 (7 + a)), (24, true, .int .i64 (7 + a + 2)), (25, true, .agg #[.int .i64 a, .int .i64 b, .int .i64 (c : Int), .int .i64 d]), (26, true, .int .i64 (14 + a)), (27, true, .int .i64 (2 * (14 + a))), (1, true, .pointer (some ⟨b1, 0, none⟩)), (5, true, .pointer (some ⟨ba, 0, none⟩))] (mapE kfZ vfZ bm ml :: [arB ba wv A0, arW wv c A0, .blk b1 (.cells #[.int .i64 a, .int .i64 b, .int .i64 (c : Int), .int .i64 d] 26)]) ([]) (G 4 #[true, true, true, false, true, true, true, true, true, true, true, true, true, true, false, false, false]) := fun bm ml hml => by
    refine hnode _ _ _ _ [(3, [], 3, #[true, true, true, true, true, true, true, true, true, true, true, true, true, true, false, false, false]), (14, [], 3, #[true, true, true, false, true, true, true, true, true, true, true, true, true, true, true, false, false])] (by kernel_rfl) (Cl.kept (by (exact keepOf (by (apply List.Sublist.cons; apply List.Sublist.cons; apply List.Sublist.cons; exact List.Sublist.refl _))))) ?_
    refine ⟨?_, ?_⟩
    · skip
      refine At.mapIns (kf := kfZ) (vf := vfZ) (ml := ml) (k := (((2 : Int), 21 + a + 3 * b)).1) (v := (((2 : Int), 21 + a + 3 * b)).2) rfl rfl Try.underlying55 (keyOk_int Try.underlying3) (.t rfl) .c (.t rfl) (.n U0) ⟨(Cl.kept (by (exact keepOf (by (apply List.Sublist.cons; apply List.Sublist.cons; apply List.Sublist.cons; exact List.Sublist.refl _))))), ?_⟩
      refine At.nil ?_
      exact At.weak (Sub.look (.cons rfl (.cons rfl (.cons rfl (.cons rfl (.cons rfl (.cons rfl (.cons rfl (.cons rfl (.cons rfl (.cons rfl (.cons rfl (.cons rfl (.cons rfl (.cons rfl .nil))))))))))))))) (by (exact List.Sublist.refl _)) (g2 bm (aput ml (((2 : Int), 21 + a + 3 * b)).1 (((2 : Int), 21 + a + 3 * b)).2) ((perm_put hml (by intro e he; (simp at he; subst he; simp; omega))).trans (by exact perm_xy)))
    · skip
      refine At.mapIns (kf := kfZ) (vf := vfZ) (ml := ml) (k := ((7 + a + 2, 2 * (14 + a))).1) (v := ((7 + a + 2, 2 * (14 + a))).2) rfl rfl Try.underlying55 (keyOk_int Try.underlying3) (.t rfl) (.t rfl) (.t rfl) (.n U0) ⟨(Cl.kept (by (exact keepOf (by (apply List.Sublist.cons; apply List.Sublist.cons; apply List.Sublist.cons; exact List.Sublist.refl _))))), ?_⟩
      refine At.nil ?_
      exact At.weak (Sub.look (.cons rfl (.cons rfl (.cons rfl (.cons rfl (.cons rfl (.cons rfl (.cons rfl (.cons rfl (.cons rfl (.cons rfl (.cons rfl (.cons rfl (.cons rfl (.cons rfl .nil))))))))))))))) (by (exact List.Sublist.refl _)) (g4 bm (aput ml ((7 + a + 2, 2 * (14 + a))).1 ((7 + a + 2, 2 * (14 + a))).2) ((perm_put hml (by intro e he; (simp at he; subst he; simp; omega))).trans (by exact .refl _)))
  have g7 : ∀ (bm : Nat) (ml : List (Int × Int)) (hml : ml.Perm [(7 + a + 2, 2 * (14 + a))]), At w 40 [] [(16, true, .map (some bm)), (17, true, .agg #[.int .i64 a, .int .i64 b, .int .i64 (c : Int), .int .i64 d]), (18, true, .int .i64 (21 + a + 3 * b)), (19, true, .agg #[.int .i64 a, .int .i64 b, .int .i64 (c : Int), .int .i64 d]), (20, true, .int .i64 (7 + a)), (21, true, .int .i64 (7 + a + 0)), (22, true, .agg #[.int .i64 a, .int .i64 b, .int .i64 (c : Int), .int .i64 d]), (23, true, .int .i64 (7 + a)), (24, true, .int .i64 (7 + a + 2)), (25, true, .agg #[.int .i64 a, .int .i64 b, .int .i64 (c : Int), .int .i64 d]), (26, true, .int .i64 (14 + a)), (27, true, .int .i64 (2 * (14 + a))), (1, true, .pointer (some ⟨b1, 0, none⟩)), (5, true, .pointer (some ⟨ba, 0, none⟩))] (mapE kfZ vfZ bm ml :: [arB ba wv A0, arW wv c A0, .blk b1 (.cells #[.int .i64 a, .int .i64 b, .int .i64 (c : Int), .int .i64 d] 26)]) ([]) (G 4 #[true, true, true, false, true, true, true, false, true, true, true, true, true, true, true, false, false]) := fun bm ml hml => by
    refine hnode _ _ _ _ [(3, [], 3, #[true, true, true, true, true, true, true, false, true, true, true, true, true, true, true, false, false]), (7, [], 3, #[true, true, true, false, true, true, true, true, true, true, true, true, true, true, true, false, false])] (by kernel_rfl) (Cl.kept (by (exact keepOf (by (apply List.Sublist.cons; apply List.Sublist.cons; apply List.Sublist.cons; exact List.Sublist.refl _))))) ?_
    refine ⟨?_, ?_⟩
    · skip
      refine At.mapIns (kf := kfZ) (vf := vfZ) (ml := ml) (k := (((2 : Int), 21 + a + 3 * b)).1) (v := (((2 : Int), 21 + a + 3 * b)).2) rfl rfl Try.underlying55 (keyOk_int Try.underlying3) (.t rfl) .c (.t rfl) (.n U0) ⟨(Cl.kept (by (exact keepOf (by (apply List.Sublist.cons; apply List.Sublist.cons; apply List.Sublist.cons; exact List.Sublist.refl _))))), ?_⟩
      refine At.nil ?_
      exact At.weak (Sub.look (.cons rfl (.cons rfl (.cons rfl (.cons rfl (.cons rfl (.cons rfl (.cons rfl (.cons rfl (.cons rfl (.cons rfl (.cons rfl (.cons rfl (.cons rfl (.cons rfl .nil))))))))))))))) (by (exact List.Sublist.refl _)) (g3 bm (aput ml (((2 : Int), 21 + a + 3 * b)).1 (((2 : Int), 21 + a + 3 * b)).2) ((perm_put hml (by intro e he; (simp at he; subst he; simp; omega))).trans (by exact perm_xy)))
    · skip
      refine At.mapIns (kf := kfZ) (vf := vfZ) (ml := ml) (k := ((7 + a + 0, (-1 : Int))).1) (v := ((7 + a + 0, (-1 : Int))).2) rfl rfl Try.underlying55 (keyOk_int Try.underlying3) (.t rfl) (.t rfl) .c (.n U0) ⟨(Cl.kept (by (exact keepOf (by (apply List.Sublist.cons; apply List.Sublist.cons; apply List.Sublist.cons; exact List.Sublist.refl _))))), ?_⟩
      refine At.nil ?_
      exact At.weak (Sub.look (.cons rfl (.cons rfl (.cons rfl (.cons rfl (.cons rfl (.cons rfl (.cons rfl (.cons rfl (.cons rfl (.cons rfl (.cons rfl (.cons rfl (.cons rfl (.cons rfl .nil))))))))))))))) (by (exact List.Sublist.refl _)) (g4 bm (aput ml ((7 + a + 0, (-1 : Int))).1 ((7 + a + 0, (-1 : Int))).2) ((perm_put hml (by intro e he; (simp at he; subst he; simp; omega))).trans (by exact perm_xy)))
  have g8 : ∀ (bm : Nat) (ml : List (Int × Int)) (hml : ml.Perm [((2 : Int), 21 + a + 3 * b), (7 + a + 0, (-1 : Int))]), At w 40 [] [(16, true, .map (some bm)), (17, true, .agg #[.int .i64 a, .int .i64 b, .int .i64 (c : Int), .int .i64 d]), (18, true, .int .i64 (21 + a + 3 * b)), (19, true, .agg #[.int .i64 a, .int .i64 b, .int .i64 (c : Int), .int .i64 d]), (20, true, .int .i64 (7 + a)), (21, true, .int .i64 (7 + a + 0)), (22, true, .agg #[.int .i64 a, .int .i64 b, .int .i64 (c : Int), .int .i64 d]), (23, true, .int .i64 (7 + a)), (24, true, .int .i64 (7 + a + 2)), (25, true, .agg #[.int .i64 a, .int .i64 b, .int .i64 (c : Int), .int .i64 d]), (1, true, .pointer (some ⟨b1, 0, none⟩)), (5, true, .pointer (some ⟨ba, 0, none⟩))] (mapE kfZ vfZ bm ml :: [arB ba wv A0, arW wv c A0, .blk b1 (.cells #[.int .i64 a, .int .i64 b, .int .i64 (c : Int), .int .i64 d] 26)]) ([]) (G 5 #[true, true, true, true, true, true, true, true, true, true, true, true, false, false, false, false, false]) := fun bm ml hml => by
    refine hnode _ _ _ _ [(12, [(true, 13)], 3, #[true, true, true, true, true, true, true, true, true, true, true, true, true, true, false, false, false])] (by kernel_rfl) (Cl.kept (by (exact keepOf (by (apply List.Sublist.cons; apply List.Sublist.cons; apply List.Sublist.cons; exact List.Sublist.refl _))))) ?_
    · skip
      refine At.callVR rfl rfl rfl (.cons (.t rfl) .nil) (by (exact .nil)) (fun hg => p_First (by omega) (by omega)) (Cl.kept (by (exact keepOf (by (apply List.Sublist.cons; apply List.Sublist.cons; apply List.Sublist.cons; exact List.Sublist.refl _))))) ?_
      refine At.s rfl rfl rfl rfl (Cl.kept (by (exact keepOf (by (apply List.Sublist.cons; apply List.Sublist.cons; apply List.Sublist.cons; exact List.Sublist.refl _))))) (R.mulI .c (.t rfl) (fun hg => by omega)) ?_
      refine At.nil ?_
      exact At.weak (Sub.look (.cons rfl (.cons rfl (.cons rfl (.cons rfl (.cons rfl (.cons rfl (.cons rfl (.cons rfl (.cons rfl (.cons rfl (.cons rfl (.cons rfl (.cons rfl (.cons rfl .nil))))))))))))))) (by (exact List.Sublist.refl _)) (g2 bm ml hml)
  have g9 : ∀ (bm : Nat) (ml : List (Int × Int)) (hml : ml.Perm []), At w 40 [] [(16, true, .map (some bm)), (17, true, .agg #[.int .i64 a, .int .i64 b, .int .i64 (c : Int), .int .i64 d]), (18, true, .int .i64 (21 + a + 3 * b)), (19, true, .agg #[.int .i64 a, .int .i64 b, .int .i64 (c : Int), .int .i64 d]), (20, true, .int .i64 (7 + a)), (21, true, .int .i64 (7 + a + 0)), (22, true, .agg #[.int .i64 a, .int .i64 b, .int .i64 (c : Int), .int .i64 d]), (23, true, .int .i64 (7 + a)), (24, true, .int .i64 (7 + a + 2)), (25, true, .agg #[.int .i64 a, .int .i64 b, .int .i64 (c : Int), .int .i64 d]), (26, true, .int .i64 (14 + a)), (27, true, .int .i64 (2 * (14 + a))), (1, true, .pointer (some ⟨b1, 0, none⟩)), (5, true, .pointer (some ⟨ba, 0, none⟩))] (mapE kfZ vfZ bm ml :: [arB ba wv A0, arW wv c A0, .blk b1 (.cells #[.int .i64 a, .int .i64 b, .int .i64 (c : Int), .int .i64 d] 26)]) ([]) (G 5 #[true, true, true, false, true, true, true, false, true, true, true, true, true, true, false, false, false]) := fun bm ml hml => by
    refine hnode _ _ _ _ [(3, [], 4, #[true, true, true, true, true, true, true, false, true, true, true, true, true, true, false, false, false]), (7, [], 4, #[true, true, true, false, true, true, true, true, true, true, true, true, true, true, false, false, false]), (14, [], 4, #[true, true, true, false, true, true, true, false, true, true, true, true, true, true, true, false, false])] (by kernel_rfl) (Cl.kept (by (exact keepOf (by (apply List.Sublist.cons; apply List.Sublist.cons; apply List.Sublist.cons; exact List.Sublist.refl _))))) ?_
    refine ⟨?_, ?_, ?_⟩
    · skip
      refine At.mapIns (kf := kfZ) (vf := vfZ) (ml := ml) (k := (((2 : Int), 21 + a + 3 * b)).1) (v := (((2 : Int), 21 + a + 3 * b)).2) rfl rfl Try.underlying55 (keyOk_int Try.underlying3) (.t rfl) .c (.t rfl) (.n U0) ⟨(Cl.kept (by (exact keepOf (by (apply List.Sublist.cons; apply List.Sublist.cons; apply List.Sublist.cons; exact List.Sublist.refl _))))), ?_⟩
      refine At.nil ?_
      exact At.weak (Sub.look (.cons rfl (.cons rfl (.cons rfl (.cons rfl (.cons rfl (.cons rfl (.cons rfl (.cons rfl (.cons rfl (.cons rfl (.cons rfl (.cons rfl (.cons rfl (.cons rfl .nil))))))))))))))) (by (exact List.Sublist.refl _)) (g5 bm (aput ml (((2 : Int), 21 + a + 3 * b)).1 (((2 : Int), 21 + a + 3 * b)).2) ((perm_put hml (by intro e he; (simp at he; done))).trans (by exact .refl _)))
    · skip
      refine At.mapIns (kf := kfZ) (vf := vfZ) (ml := ml) (k := ((7 + a + 0, (-1 : Int))).1) (v := ((7 + a + 0, (-1 : Int))).2) rfl rfl Try.underlying55 (keyOk_int Try.underlying3) (.t rfl) (.t rfl) .c (.n U0) ⟨(Cl.kept (by (exact keepOf (by (apply List.Sublist.cons; apply List.Sublist.cons; apply List.Sublist.cons; exact List.Sublist.refl _))))), ?_⟩
      refine At.nil ?_
      exact At.weak (Sub.look (.cons rfl (.cons rfl (.cons rfl (.cons rfl (.cons rfl (.cons rfl (.cons rfl (.cons rfl (.cons rfl (.cons rfl (.cons rfl (.cons rfl (.cons rfl (.cons rfl .nil))))))))))))))) (by (exact List.Sublist.refl _)) (g6 bm (aput ml ((7 + a + 0, (-1 : Int))).1 ((7 + a + 0, (-1 : Int))).2) ((perm_put hml (by intro e he; (simp at he; done))).trans (by exact .refl _)))
    · skip
      refine At.mapIns (kf := kfZ) (vf := vfZ) (ml := ml) (k := ((7 + a + 2, 2 * (14 + a))).1) (v := ((7 + a + 2, 2 * (14 + a))).2) rfl rfl Try.underlying55 (keyOk_int Try.underlying3) (.t rfl) (.t rfl) (.t rfl) (.n U0) ⟨(Cl.kept (by (exact keepOf (by (apply List.Sublist.cons; apply List.Sublist.cons; apply List.Sublist.cons; exact List.Sublist.refl _))))), ?_⟩
      refine At.nil ?_
      exact At.weak (Sub.look (.cons rfl (.cons rfl (.cons rfl (.cons rfl (.cons rfl (.cons rfl (.cons rfl (.cons rfl (.cons rfl (.cons rfl (.cons rfl (.cons rfl (.cons rfl (.cons rfl .nil))))))))))))))) (by (exact List.Sublist.refl _)) (g7 bm (aput ml ((7 + a + 2, 2 * (14 + a))).1 ((7 + a + 2, 2 * (14 + a))).2) ((perm_put hml (by intro e he; (simp at he; done))).trans (by exact .refl _)))
  have g10 : ∀ (bm : Nat) (ml : List (Int × Int)) (hml : ml.Perm [((2 : Int), 21 + a + 3 * b)]), At w 40 [] [(16, true, .map (some bm)), (17, true, .agg #[.int .i64 a, .int .i64 b, .int .i64 (c : Int), .int .i64 d]), (18, true, .int .i64 (21 + a + 3 * b)), (19, true, .agg #[.int .i64 a, .int .i64 b, .int .i64 (c : Int), .int .i64 d]), (20, true, .int .i64 (7 + a)), (21, true, .int .i64 (7 + a + 0)), (22, true, .agg #[.int .i64 a, .int .i64 b, .int .i64 (c : Int), .int .i64 d]), (23, true, .int .i64 (7 + a)), (24, true, .int .i64 (7 + a + 2)), (25, true, .agg #[.int .i64 a, .int .i64 b, .int .i64 (c : Int), .int .i64 d]), (1, true, .pointer (some ⟨b1, 0, none⟩)), (5, true, .pointer (some ⟨ba, 0, none⟩))] (mapE kfZ vfZ bm ml :: [arB ba wv A0, arW wv c A0, .blk b1 (.cells #[.int .i64 a, .int .i64 b, .int .i64 (c : Int), .int .i64 d] 26)]) ([]) (G 6 #[true, true, true, true, true, true, true, false, true, true, true, true, false, false, false, false, false]) := fun bm ml hml => by
    refine hnode _ _ _ _ [(7, [], 5, #[true, true, true, true, true, true, true, true, true, true, true, true, false, false, false, false, false]), (12, [(true, 13)], 4, #[true, true, true, true, true, true, true, false, true, true, true, true, true, true, false, false, false])] (by kernel_rfl) (Cl.kept (by (exact keepOf (by (apply List.Sublist.cons; apply List.Sublist.cons; apply List.Sublist.cons; exact List.Sublist.refl _))))) ?_
    refine ⟨?_, ?_⟩
    · skip
      refine At.mapIns (kf := kfZ) (vf := vfZ) (ml := ml) (k := ((7 + a + 0, (-1 : Int))).1) (v := ((7 + a + 0, (-1 : Int))).2) rfl rfl Try.underlying55 (keyOk_int Try.underlying3) (.t rfl) (.t rfl) .c (.n U0) ⟨(Cl.kept (by (exact keepOf (by (apply List.Sublist.cons; apply List.Sublist.cons; apply List.Sublist.cons; exact List.Sublist.refl _))))), ?_⟩
      refine At.nil ?_
      exact At.weak (Sub.look (.cons rfl (.cons rfl (.cons rfl (.cons rfl (.cons rfl (.cons rfl (.cons rfl (.cons rfl (.cons rfl (.cons rfl (.cons rfl (.cons rfl .nil))))))))))))) (by (exact List.Sublist.refl _)) (g8 bm (aput ml ((7 + a + 0, (-1 : Int))).1 ((7 + a + 0, (-1 : Int))).2) ((perm_put hml (by intro e he; (simp at he; subst he; simp; omega))).trans (by exact .refl _)))
    · skip
      refine At.callVR rfl rfl rfl (.cons (.t rfl) .nil) (by (exact .nil)) (fun hg => p_First (by omega) (by omega)) (Cl.kept (by (exact keepOf (by (apply List.Sublist.cons; apply List.Sublist.cons; apply List.Sublist.cons; exact List.Sublist.refl _))))) ?_
      refine At.s rfl rfl rfl rfl (Cl.kept (by (exact keepOf (by (apply List.Sublist.cons; apply List.Sublist.cons; apply List.Sublist.cons; exact List.Sublist.refl _))))) (R.mulI .c (.t rfl) (fun hg => by omega)) ?_
      refine At.nil ?_
      exact At.weak (Sub.look (.cons rfl (.cons rfl (.cons rfl (.cons rfl (.cons rfl (.cons rfl (.cons rfl (.cons rfl (.cons rfl (.cons rfl (.cons rfl (.cons rfl (.cons rfl (.cons rfl .nil))))))))))))))) (by (exact List.Sublist.refl _)) (g5 bm ml hml)
  have g11 : ∀ (bm : Nat) (ml : List (Int × Int)) (hml : ml.Perm [(7 + a + 0, (-1 : Int))]), At w 40 [] [(16, true, .map (some bm)), (17, true, .agg #[.int .i64 a, .int .i64 b, .int .i64 (c : Int), .int .i64 d]), (18, true, .int .i64 (21 + a + 3 * b)), (19, true, .agg #[.int .i64 a, .int .i64 b, .int .i64 (c : Int), .int .i64 d]), (20, true, .int .i64 (7 + a)), (21, true, .int .i64 (7 + a + 0)), (22, true, .agg #[.int .i64 a, .int .i64 b, .int .i64 (c : Int), .int .i64 d]), (23, true, .int .i64 (7 + a)), (24, true, .int .i64 (7 + a + 2)), (25, true, .agg #[.int .i64 a, .int .i64 b, .int .i64 (c : Int), .int .i64 d]), (1, true, .pointer (some ⟨b1, 0, none⟩)), (5, true, .pointer (some ⟨ba, 0, none⟩))] (mapE kfZ vfZ bm ml :: [arB ba wv A0, arW wv c A0, .blk b1 (.cells #[.int .i64 a, .int .i64 b, .int .i64 (c : Int), .int .i64 d] 26)]) ([]) (G 6 #[true, true, true, false, true, true, true, true, true, true, true, true, false, false, false, false, false]) := fun bm ml hml => by
    refine hnode _ _ _ _ [(3, [], 5, #[true, true, true, true, true, true, true, true, true, true, true, true, false, false, false, false, false]), (12, [(true, 13)], 4, #[true, true, true, false, true, true, true, true, true, true, true, true, true, true, false, false, false])] (by kernel_rfl) (Cl.kept (by (exact keepOf (by (apply List.Sublist.cons; apply List.Sublist.cons; apply List.Sublist.cons; exact List.Sublist.refl _))))) ?_
    refine ⟨?_, ?_⟩
    · skip
      refine At.mapIns (kf := kfZ) (vf := vfZ) (ml := ml) (k := (((2 : Int), 21 + a + 3 * b)).1) (v := (((2 : Int), 21 + a + 3 * b)).2) rfl rfl Try.underlying55 (keyOk_int Try.underlying3) (.t rfl) .c (.t rfl) (.n U0) ⟨(Cl.kept (by (exact keepOf (by (apply List.Sublist.cons; apply List.Sublist.cons; apply List.Sublist.cons; exact List.Sublist.refl _))))), ?_⟩
      refine At.nil ?_
      exact At.weak (Sub.look (.cons rfl (.cons rfl (.cons rfl (.cons rfl (.cons rfl (.cons rfl (.cons rfl (.cons rfl (.cons rfl (.cons rfl (.cons rfl (.cons rfl .nil))))))))))))) (by (exact List.Sublist.refl _)) (g8 bm (aput ml (((2 : Int), 21 + a + 3 * b)).1 (((2 : Int), 21 + a + 3 * b)).2) ((perm_put hml (by intro e he; (simp at he; subst he; simp; omega))).trans (by exact perm_xy)))
    · skip
      refine At.callVR rfl rfl rfl (.cons (.t rfl) .nil) (by (exact .nil)) (fun hg => p_First (by omega) (by omega)) (Cl.kept (by (exact keepOf (by (apply List.Sublist.cons; apply List.Sublist.cons; apply List.Sublist.cons; exact List.Sublist.refl _))))) ?_
      refine At.s rfl rfl rfl rfl (Cl.kept (by (exact keepOf (by (apply List.Sublist.cons; apply List.Sublist.cons; apply List.Sublist.cons; exact List.Sublist.refl _))))) (R.mulI .c (.t rfl) (fun hg => by omega)) ?_
      refine At.nil ?_
      exact At.weak (Sub.look (.cons rfl (.cons rfl (.cons rfl (.cons rfl (.cons rfl (.cons rfl (.cons rfl (.cons rfl (.cons rfl (.cons rfl (.cons rfl (.cons rfl (.cons rfl (.cons rfl .nil))))))))))))))) (by (exact List.Sublist.refl _)) (g6 bm ml hml)
  have g12 : ∀ (_ : True), At w 40 [] [(17, true, .agg #[.int .i64 a, .int .i64 b, .int .i64 (c : Int), .int .i64 d]), (18, true, .int .i64 (21 + a + 3 * b)), (19, true, .agg #[.int .i64 a, .int .i64 b, .int .i64 (c : Int), .int .i64 d]), (20, true, .int .i64 (7 + a)), (21, true, .int .i64 (7 + a + 0)), (22, true, .agg #[.int .i64 a, .int .i64 b, .int .i64 (c : Int), .int .i64 d]), (23, true, .int .i64 (7 + a)), (24, true, .int .i64 (7 + a + 2)), (25, true, .agg #[.int .i64 a, .int .i64 b, .int .i64 (c : Int), .int .i64 d]), (26, true, .int .i64 (14 + a)), (27, true, .int .i64 (2 * (14 + a))), (1, true, .pointer (some ⟨b1, 0, none⟩)), (5, true, .pointer (some ⟨ba, 0, none⟩))] ([arB ba wv A0, arW wv c A0, .blk b1 (.cells #[.int .i64 a, .int .i64 b, .int .i64 (c : Int), .int .i64 d] 26)]) ([]) (G 6 #[false, true, true, false, true, true, true, false, true, true, true, true, true, true, false, false, false]) := fun _ => by
    refine hnode _ _ _ _ [(0, [], 5, #[true, true, true, false, true, true, true, false, true, true, true, true, true, true, false, false, false])] (by kernel_rfl) (Cl.kept (by (exact keepOf (by (apply List.Sublist.cons; apply List.Sublist.cons; exact List.Sublist.refl _))))) ?_
    · skip
      refine At.makeMap kfZ vfZ rfl rfl rfl (fun b2 hb2 => ⟨(Cl.kept (by (exact keepOf (by (apply List.Sublist.cons; apply List.Sublist.cons; apply List.Sublist.cons; exact List.Sublist.refl _))))), ?_⟩)
      refine At.nil ?_
      exact At.weak (Sub.look (.cons rfl (.cons rfl (.cons rfl (.cons rfl (.cons rfl (.cons rfl (.cons rfl (.cons rfl (.cons rfl (.cons rfl (.cons rfl (.cons rfl (.cons rfl (.cons rfl .nil))))))))))))))) (by (exact List.Sublist.refl _)) (g9 b2 [] (.refl _))
  have g13 : ∀ (bm : Nat) (ml : List (Int × Int)) (hml : ml.Perm [((2 : Int), 21 + a + 3 * b), (7 + a + 0, (-1 : Int))]), At w 40 [] [(16, true, .map (some bm)), (17, true, .agg #[.int .i64 a, .int .i64 b, .int .i64 (c : Int), .int .i64 d]), (18, true, .int .i64 (21 + a + 3 * b)), (19, true, .agg #[.int .i64 a, .int .i64 b, .int .i64 (c : Int), .int .i64 d]), (20, true, .int .i64 (7 + a)), (21, true, .int .i64 (7 + a + 0)), (22, true, .agg #[.int .i64 a, .int .i64 b, .int .i64 (c : Int), .int .i64 d]), (25, true, .agg #[.int .i64 a, .int .i64 b, .int .i64 (c : Int), .int .i64 d]), (1, true, .pointer (some ⟨b1, 0, none⟩)), (5, true, .pointer (some ⟨ba, 0, none⟩))] (mapE kfZ vfZ bm ml :: [arB ba wv A0, arW wv c A0, .blk b1 (.cells #[.int .i64 a, .int .i64 b, .int .i64 (c : Int), .int .i64 d] 26)]) ([]) (G 7 #[true, true, true, true, true, true, true, true, true, false, false, true, false, false, false, false, false]) := fun bm ml hml => by
    refine hnode _ _ _ _ [(9, [(true, 10)], 5, #[true, true, true, true, true, true, true, true, true, true, true, true, false, false, false, false, false])] (by kernel_rfl) (Cl.kept (by (exact keepOf (by (apply List.Sublist.cons; apply List.Sublist.cons; apply List.Sublist.cons; exact List.Sublist.refl _))))) ?_
    · skip
      refine At.callVR rfl rfl rfl (.cons (.t rfl) .nil) (by (exact .nil)) (fun hg => p_Head (by omega) (by omega)) (Cl.kept (by (exact keepOf (by (apply List.Sublist.cons; apply List.Sublist.cons; apply List.Sublist.cons; exact List.Sublist.refl _))))) ?_
      refine At.s rfl rfl rfl rfl (Cl.kept (by (exact keepOf (by (apply List.Sublist.cons; apply List.Sublist.cons; apply List.Sublist.cons; exact List.Sublist.refl _))))) (R.addI (.t rfl) .c (fun hg => by omega)) ?_
      refine At.nil ?_
      exact At.weak (Sub.look (.cons rfl (.cons rfl (.cons rfl (.cons rfl (.cons rfl (.cons rfl (.cons rfl (.cons rfl (.cons rfl (.cons rfl (.cons rfl (.cons rfl .nil))))))))))))) (by (exact List.Sublist.refl _)) (g8 bm ml hml)
  have g14 : ∀ (bm : Nat) (ml : List (Int × Int)) (hml : ml.Perm []), At w 40 [] [(16, true, .map (some bm)), (17, true, .agg #[.int .i64 a, .int .i64 b, .int .i64 (c : Int), .int .i64 d]), (18, true, .int .i64 (21 + a + 3 * b)), (19, true, .agg #[.int .i64 a, .int .i64 b, .int .i64 (c : Int), .int .i64 d]), (20, true, .int .i64 (7 + a)), (21, true, .int .i64 (7 + a + 0)), (22, true, .agg #[.int .i64 a, .int .i64 b, .int .i64 (c : Int), .int .i64 d]), (23, true, .int .i64 (7 + a)), (24, true, .int .i64 (7 + a + 2)), (25, true, .agg #[.int .i64 a, .int .i64 b, .int .i64 (c : Int), .int .i64 d]), (1, true, .pointer (some ⟨b1, 0, none⟩)), (5, true, .pointer (some ⟨ba, 0, none⟩))] (mapE kfZ vfZ bm ml :: [arB ba wv A0, arW wv c A0, .blk b1 (.cells #[.int .i64 a, .int .i64 b, .int .i64 (c : Int), .int .i64 d] 26)]) ([]) (G 7 #[true, true, true, false, true, true, true, false, true, true, true, true, false, false, false, false, false]) := fun bm ml hml => by
    refine hnode _ _ _ _ [(3, [], 6, #[true, true, true, true, true, true, true, false, true, true, true, true, false, false, false, false, false]), (7, [], 6, #[true, true, true, false, true, true, true, true, true, true, true, true, false, false, false, false, false]), (12, [(true, 13)], 5, #[true, true, true, false, true, true, true, false, true, true, true, true, true, true, false, false, false])] (by kernel_rfl) (Cl.kept (by (exact keepOf (by (apply List.Sublist.cons; apply List.Sublist.cons; apply List.Sublist.cons; exact List.Sublist.refl _))))) ?_
    refine ⟨?_, ?_, ?_⟩
    · skip
      refine At.mapIns (kf := kfZ) (vf := vfZ) (ml := ml) (k := (((2 : Int), 21 + a + 3 * b)).1) (v := (((2 : Int), 21 + a + 3 * b)).2) rfl rfl Try.underlying55 (keyOk_int Try.underlying3) (.t rfl) .c (.t rfl) (.n U0) ⟨(Cl.kept (by (exact keepOf (by (apply List.Sublist.cons; apply List.Sublist.cons; apply List.Sublist.cons; exact List.Sublist.refl _))))), ?_⟩
      refine At.nil ?_
      exact At.weak (Sub.look (.cons rfl (.cons rfl (.cons rfl (.cons rfl (.cons rfl (.cons rfl (.cons rfl (.cons rfl (.cons rfl (.cons rfl (.cons rfl (.cons rfl .nil))))))))))))) (by (exact List.Sublist.refl _)) (g10 bm (aput ml (((2 : Int), 21 + a + 3 * b)).1 (((2 : Int), 21 + a + 3 * b)).2) ((perm_put hml (by intro e he; (simp at he; done))).trans (by exact .refl _)))
    · skip
      refine At.mapIns (kf := kfZ) (vf := vfZ) (ml := ml) (k := ((7 + a + 0, (-1 : Int))).1) (v := ((7 + a + 0, (-1 : Int))).2) rfl rfl Try.underlying55 (keyOk_int Try.underlying3) (.t rfl) (.t rfl) .c (.n U0) ⟨(Cl.kept (by (exact keepOf (by (apply List.Sublist.cons; apply List.Sublist.cons; apply List.Sublist.cons; exact List.Sublist.refl _))))), ?_⟩
      refine At.nil ?_
      exact At.weak (Sub.look (.cons rfl (.cons rfl (.cons rfl (.cons rfl (.cons rfl (.cons rfl (.cons rfl (.cons rfl (.cons rfl (.cons rfl (.cons rfl (.cons rfl .nil))))))))))))) (by (exact List.Sublist.refl _)) (g11 bm (aput ml ((7 + a + 0, (-1 : Int))).1 ((7 + a + 0, (-1 : Int))).2) ((perm_put hml (by intro e he; (simp at he; done))).trans (by exact .refl _)))
    · skip
      refine At.callVR rfl rfl rfl (.cons (.t rfl) .nil) (by (exact .nil)) (fun hg => p_First (by omega) (by omega)) (Cl.kept (by (exact keepOf (by (apply List.Sublist.cons; apply List.Sublist.cons; apply List.Sublist.cons; exact List.Sublist.refl _))))) ?_
      refine At.s rfl rfl rfl rfl (Cl.kept (by (exact keepOf (by (apply List.Sublist.cons; apply List.Sublist.cons; apply List.Sublist.cons; exact List.Sublist.refl _))))) (R.mulI .c (.t rfl) (fun hg => by omega)) ?_
      refine At.nil ?_
      exact At.weak (Sub.look (.cons rfl (.cons rfl (.cons rfl (.cons rfl (.cons rfl (.cons rfl (.cons rfl (.cons rfl (.cons rfl (.cons rfl (.cons rfl (.cons rfl (.cons rfl (.cons rfl .nil))))))))))))))) (by (exact List.Sublist.refl _)) (g9 bm ml hml)
  have g15 : ∀ (bm : Nat) (ml : List (Int × Int)) (hml : ml.Perm [((2 : Int), 21 + a + 3 * b)]), At w 40 [] [(16, true, .map (some bm)), (17, true, .agg #[.int .i64 a, .int .i64 b, .int .i64 (c : Int), .int .i64 d]), (18, true, .int .i64 (21 + a + 3 * b)), (19, true, .agg #[.int .i64 a, .int .i64 b, .int .i64 (c : Int), .int .i64 d]), (20, true, .int .i64 (7 + a)), (21, true, .int .i64 (7 + a + 0)), (22, true, .agg #[.int .i64 a, .int .i64 b, .int .i64 (c : Int), .int .i64 d]), (25, true, .agg #[.int .i64 a, .int .i64 b, .int .i64 (c : Int), .int .i64 d]), (1, true, .pointer (some ⟨b1, 0, none⟩)), (5, true, .pointer (some ⟨ba, 0, none⟩))] (mapE kfZ vfZ bm ml :: [arB ba wv A0, arW wv c A0, .blk b1 (.cells #[.int .i64 a, .int .i64 b, .int .i64 (c : Int), .int .i64 d] 26)]) ([]) (G 8 #[true, true, true, true, true, true, true, false, true, false, false, true, false, false, false, false, false]) := fun bm ml hml => by
    refine hnode _ _ _ _ [(7, [], 7, #[true, true, true, true, true, true, true, true, true, false, false, true, false, false, false, false, false]), (9, [(true, 10)], 6, #[true, true, true, true, true, true, true, false, true, true, true, true, false, false, false, false, false])] (by kernel_rfl) (Cl.kept (by (exact keepOf (by (apply List.Sublist.cons; apply List.Sublist.cons; apply List.Sublist.cons; exact List.Sublist.refl _))))) ?_
    refine ⟨?_, ?_⟩
    · skip
      refine At.mapIns (kf := kfZ) (vf := vfZ) (ml := ml) (k := ((7 + a + 0, (-1 : Int))).1) (v := ((7 + a + 0, (-1 : Int))).2) rfl rfl Try.underlying55 (keyOk_int Try.underlying3) (.t rfl) (.t rfl) .c (.n U0) ⟨(Cl.kept (by (exact keepOf (by (apply List.Sublist.cons; apply List.Sublist.cons; apply List.Sublist.cons; exact List.Sublist.refl _))))), ?_⟩
      refine At.nil ?_
      exact At.weak (Sub.look (.cons rfl (.cons rfl (.cons rfl (.cons rfl (.cons rfl (.cons rfl (.cons rfl (.cons rfl (.cons rfl (.cons rfl .nil))))))))))) (by (exact List.Sublist.refl _)) (g13 bm (aput ml ((7 + a + 0, (-1 : Int))).1 ((7 + a + 0, (-1 : Int))).2) ((perm_put hml (by intro e he; (simp at he; subst he; simp; omega))).trans (by exact .refl _)))
    · skip
      refine At.callVR rfl rfl rfl (.cons (.t rfl) .nil) (by (exact .nil)) (fun hg => p_Head (by omega) (by omega)) (Cl.kept (by (exact keepOf (by (apply List.Sublist.cons; apply List.Sublist.cons; apply List.Sublist.cons; exact List.Sublist.refl _))))) ?_
      refine At.s rfl rfl rfl rfl (Cl.kept (by (exact keepOf (by (apply List.Sublist.cons; apply List.Sublist.cons; apply List.Sublist.cons; exact List.Sublist.refl _))))) (R.addI (.t rfl) .c (fun hg => by omega)) ?_
      refine At.nil ?_
      exact At.weak (Sub.look (.cons rfl (.cons rfl (.cons rfl (.cons rfl (.cons rfl (.cons rfl (.cons rfl (.cons rfl (.cons rfl (.cons rfl (.cons rfl (.cons rfl .nil))))))))))))) (by (exact List.Sublist.refl _)) (g10 bm ml hml)
  have g16 : ∀ (bm : Nat) (ml : List (Int × Int)) (hml : ml.Perm [(7 + a + 0, (-1 : Int))]), At w 40 [] [(16, true, .map (some bm)), (17, true, .agg #[.int .i64 a, .int .i64 b, .int .i64 (c : Int), .int .i64 d]), (18, true, .int .i64 (21 + a + 3 * b)), (19, true, .agg #[.int .i64 a, .int .i64 b, .int .i64 (c : Int), .int .i64 d]), (20, true, .int .i64 (7 + a)), (21, true, .int .i64 (7 + a + 0)), (22, true, .agg #[.int .i64 a, .int .i64 b, .int .i64 (c : Int), .int .i64 d]), (25, true, .agg #[.int .i64 a, .int .i64 b, .int .i64 (c : Int), .int .i64 d]), (1, true, .pointer (some ⟨b1, 0, none⟩)), (5, true, .pointer (some ⟨ba, 0, none⟩))] (mapE kfZ vfZ bm ml :: [arB ba wv A0, arW wv c A0, .blk b1 (.cells #[.int .i64 a, .int .i64 b, .int .i64 (c : Int), .int .i64 d] 26)]) ([]) (G 8 #[true, true, true, false, true, true, true, true, true, false, false, true, false, false, false, false, false]) := fun bm ml hml => by
    refine hnode _ _ _ _ [(3, [], 7, #[true, true, true, true, true, true, true, true, true, false, false, true, false, false, false, false, false]), (9, [(true, 10)], 6, #[true, true, true, false, true, true, true, true, true, true, true, true, false, false, false, false, false])] (by kernel_rfl) (Cl.kept (by (exact keepOf (by (apply List.Sublist.cons; apply List.Sublist.cons; apply List.Sublist.cons; exact List.Sublist.refl _))))) ?_
    refine ⟨?_, ?_⟩
    · skip
      refine At.mapIns (kf := kfZ) (vf := vfZ) (ml := ml) (k := (((2 : Int), 21 + a + 3 * b)).1) (v := (((2 : Int), 21 + a + 3 * b)).2) rfl rfl Try.underlying55 (keyOk_int Try.underlying3) (.t rfl) .c (.t rfl) (.n U0) ⟨(Cl.kept (by (exact keepOf (by (apply List.Sublist.cons; apply List.Sublist.cons; apply List.Sublist.cons; exact List.Sublist.refl _))))), ?_⟩
      refine At.nil ?_
      exact At.weak (Sub.look (.cons rfl (.cons rfl (.cons rfl (.cons rfl (.cons rfl (.cons rfl (.cons rfl (.cons rfl (.cons rfl (.cons rfl .nil))))))))))) (by (exact List.Sublist.refl _)) (g13 bm (aput ml (((2 : Int), 21 + a + 3 * b)).1 (((2 : Int), 21 + a + 3 * b)).2) ((perm_put hml (by intro e he; (simp at he; subst he; simp; omega))).trans (by exact perm_xy)))
    · skip
      refine At.callVR rfl rfl rfl (.cons (.t rfl) .nil) (by (exact .nil)) (fun hg => p_Head (by omega) (by omega)) (Cl.kept (by (exact keepOf (by (apply List.Sublist.cons; apply List.Sublist.cons; apply List.Sublist.cons; exact List.Sublist.refl _))))) ?_
      refine At.s rfl rfl rfl rfl (Cl.kept (by (exact keepOf (by (apply List.Sublist.cons; apply List.Sublist.cons; apply List.Sublist.cons; exact List.Sublist.refl _))))) (R.addI (.t rfl) .c (fun hg => by omega)) ?_
      refine At.nil ?_
      exact At.weak (Sub.look (.cons rfl (.cons rfl (.cons rfl (.cons rfl (.cons rfl (.cons rfl (.cons rfl (.cons rfl (.cons rfl (.cons rfl (.cons rfl (.cons rfl .nil))))))))))))) (by (exact List.Sublist.refl _)) (g11 bm ml hml)
  have g17 : ∀ (_ : True), At w 40 [] [(17, true, .agg #[.int .i64 a, .int .i64 b, .int .i64 (c : Int), .int .i64 d]), (18, true, .int .i64 (21 + a + 3 * b)), (19, true, .agg #[.int .i64 a, .int .i64 b, .int .i64 (c : Int), .int .i64 d]), (20, true, .int .i64 (7 + a)), (21, true, .int .i64 (7 + a + 0)), (22, true, .agg #[.int .i64 a, .int .i64 b, .int .i64 (c : Int), .int .i64 d]), (23, true, .int .i64 (7 + a)), (24, true, .int .i64 (7 + a + 2)), (25, true, .agg #[.int .i64 a, .int .i64 b, .int .i64 (c : Int), .int .i64 d]), (1, true, .pointer (some ⟨b1, 0, none⟩)), (5, true, .pointer (some ⟨ba, 0, none⟩))] ([arB ba wv A0, arW wv c A0, .blk b1 (.cells #[.int .i64 a, .int .i64 b, .int .i64 (c : Int), .int .i64 d] 26)]) ([]) (G 8 #[false, true, true, false, true, true, true, false, true, true, true, true, false, false, false, false, false]) := fun _ => by
    refine hnode _ _ _ _ [(0, [], 7, #[true, true, true, false, true, true, true, false, true, true, true, true, false, false, false, false, false]), (12, [(true, 13)], 6, #[false, true, true, false, true, true, true, false, true, true, true, true, true, true, false, false, false])] (by kernel_rfl) (Cl.kept (by (exact keepOf (by (apply List.Sublist.cons; apply List.Sublist.cons; exact List.Sublist.refl _))))) ?_
    refine ⟨?_, ?_⟩
    · skip
      refine At.makeMap kfZ vfZ rfl rfl rfl (fun b2 hb2 => ⟨(Cl.kept (by (exact keepOf (by (apply List.Sublist.cons; apply List.Sublist.cons; apply List.Sublist.cons; exact List.Sublist.refl _))))), ?_⟩)
      refine At.nil ?_
      exact At.weak (Sub.look (.cons rfl (.cons rfl (.cons rfl (.cons rfl (.cons rfl (.cons rfl (.cons rfl (.cons rfl (.cons rfl (.cons rfl (.cons rfl (.cons rfl .nil))))))))))))) (by (exact List.Sublist.refl _)) (g14 b2 [] (.refl _))
    · skip
      refine At.callVR rfl rfl rfl (.cons (.t rfl) .nil) (by (exact .nil)) (fun hg => p_First (by omega) (by omega)) (Cl.kept (by (exact keepOf (by (apply List.Sublist.cons; apply List.Sublist.cons; exact List.Sublist.refl _))))) ?_
      refine At.s rfl rfl rfl rfl (Cl.kept (by (exact keepOf (by (apply List.Sublist.cons; apply List.Sublist.cons; exact List.Sublist.refl _))))) (R.mulI .c (.t rfl) (fun hg => by omega)) ?_
      refine At.nil ?_
      exact At.weak (Sub.look (.cons rfl (.cons rfl (.cons rfl (.cons rfl (.cons rfl (.cons rfl (.cons rfl (.cons rfl (.cons rfl (.cons rfl (.cons rfl (.cons rfl (.cons rfl .nil)))))))))))))) (by (exact List.Sublist.refl _)) (g12 trivial)
  have g18 : ∀ (bm : Nat) (ml : List (Int × Int)) (hml : ml.Perm []), At w 40 [] [(16, true, .map (some bm)), (17, true, .agg #[.int .i64 a, .int .i64 b, .int .i64 (c : Int), .int .i64 d]), (18, true, .int .i64 (21 + a + 3 * b)), (19, true, .agg #[.int .i64 a, .int .i64 b, .int .i64 (c : Int), .int .i64 d]), (20, true, .int .i64 (7 + a)), (21, true, .int .i64 (7 + a + 0)), (22, true, .agg #[.int .i64 a, .int .i64 b, .int .i64 (c : Int), .int .i64 d]), (25, true, .agg #[.int .i64 a, .int .i64 b, .int .i64 (c : Int), .int .i64 d]), (1, true, .pointer (some ⟨b1, 0, none⟩)), (5, true, .pointer (some ⟨ba, 0, none⟩))] (mapE kfZ vfZ bm ml :: [arB ba wv A0, arW wv c A0, .blk b1 (.cells #[.int .i64 a, .int .i64 b, .int .i64 (c : Int), .int .i64 d] 26)]) ([]) (G 9 #[true, true, true, false, true, true, true, false, true, false, false, true, false, false, false, false, false]) := fun bm ml hml => by
    refine hnode _ _ _ _ [(3, [], 8, #[true, true, true, true, true, true, true, false, true, false, false, true, false, false, false, false, false]), (7, [], 8, #[true, true, true, false, true, true, true, true, true, false, false, true, false, false, false, false, false]), (9, [(true, 10)], 7, #[true, true, true, false, true, true, true, false, true, true, true, true, false, false, false, false, false])] (by kernel_rfl) (Cl.kept (by (exact keepOf (by (apply List.Sublist.cons; apply List.Sublist.cons; apply List.Sublist.cons; exact List.Sublist.refl _))))) ?_
    refine ⟨?_, ?_, ?_⟩
    · skip
      refine At.mapIns (kf := kfZ) (vf := vfZ) (ml := ml) (k := (((2 : Int), 21 + a + 3 * b)).1) (v := (((2 : Int), 21 + a + 3 * b)).2) rfl rfl Try.underlying55 (keyOk_int Try.underlying3) (.t rfl) .c (.t rfl) (.n U0) ⟨(Cl.kept (by (exact keepOf (by (apply List.Sublist.cons; apply List.Sublist.cons; apply List.Sublist.cons; exact List.Sublist.refl _))))), ?_⟩
      refine At.nil ?_
      exact At.weak (Sub.look (.cons rfl (.cons rfl (.cons rfl (.cons rfl (.cons rfl (.cons rfl (.cons rfl (.cons rfl (.cons rfl (.cons rfl .nil))))))))))) (by (exact List.Sublist.refl _)) (g15 bm (aput ml (((2 : Int), 21 + a + 3 * b)).1 (((2 : Int), 21 + a + 3 * b)).2) ((perm_put hml (by intro e he; (simp at he; done))).trans (by exact .refl _)))
    · skip
      refine At.mapIns (kf := kfZ) (vf := vfZ) (ml := ml) (k := ((7 + a + 0, (-1 : Int))).1) (v := ((7 + a + 0, (-1 : Int))).2) rfl rfl Try.underlying55 (keyOk_int Try.underlying3) (.t rfl) (.t rfl) .c (.n U0) ⟨(Cl.kept (by (exact keepOf (by (apply List.Sublist.cons; apply List.Sublist.cons; apply List.Sublist.cons; exact List.Sublist.refl _))))), ?_⟩
      refine At.nil ?_
      exact At.weak (Sub.look (.cons rfl (.cons rfl (.cons rfl (.cons rfl (.cons rfl (.cons rfl (.cons rfl (.cons rfl (.cons rfl (.cons rfl .nil))))))))))) (by (exact List.Sublist.refl _)) (g16 bm (aput ml ((7 + a + 0, (-1 : Int))).1 ((7 + a + 0, (-1 : Int))).2) ((perm_put hml (by intro e he; (simp at he; done))).trans (by exact .refl _)))
    · skip
      refine At.callVR rfl rfl rfl (.cons (.t rfl) .nil) (by (exact .nil)) (fun hg => p_Head (by omega) (by omega)) (Cl.kept (by (exact keepOf (by (apply List.Sublist.cons; apply List.Sublist.cons; apply List.Sublist.cons; exact List.Sublist.refl _))))) ?_
      refine At.s rfl rfl rfl rfl (Cl.kept (by (exact keepOf (by (apply List.Sublist.cons; apply List.Sublist.cons; apply List.Sublist.cons; exact List.Sublist.refl _))))) (R.addI (.t rfl) .c (fun hg => by omega)) ?_
      refine At.nil ?_
      exact At.weak (Sub.look (.cons rfl (.cons rfl (.cons rfl (.cons rfl (.cons rfl (.cons rfl (.cons rfl (.cons rfl (.cons rfl (.cons rfl (.cons rfl (.cons rfl .nil))))))))))))) (by (exact List.Sublist.refl _)) (g14 bm ml hml)
  have g19 : ∀ (bm : Nat) (ml : List (Int × Int)) (hml : ml.Perm [((2 : Int), 21 + a + 3 * b)]), At w 40 [] [(16, true, .map (some bm)), (17, true, .agg #[.int .i64 a, .int .i64 b, .int .i64 (c : Int), .int .i64 d]), (18, true, .int .i64 (21 + a + 3 * b)), (19, true, .agg #[.int .i64 a, .int .i64 b, .int .i64 (c : Int), .int .i64 d]), (22, true, .agg #[.int .i64 a, .int .i64 b, .int .i64 (c : Int), .int .i64 d]), (25, true, .agg #[.int .i64 a, .int .i64 b, .int .i64 (c : Int), .int .i64 d]), (1, true, .pointer (some ⟨b1, 0, none⟩)), (5, true, .pointer (some ⟨ba, 0, none⟩))] (mapE kfZ vfZ bm ml :: [arB ba wv A0, arW wv c A0, .blk b1 (.cells #[.int .i64 a, .int .i64 b, .int .i64 (c : Int), .int .i64 d] 26)]) ([]) (G 10 #[true, true, true, true, true, false, false, false, true, false, false, true, false, false, false, false, false]) := fun bm ml hml => by
    refine hnode _ _ _ _ [(5, [(true, 6)], 8, #[true, true, true, true, true, true, true, false, true, false, false, true, false, false, false, false, false])] (by kernel_rfl) (Cl.kept (by (exact keepOf (by (apply List.Sublist.cons; apply List.Sublist.cons; apply List.Sublist.cons; exact List.Sublist.refl _))))) ?_
    · skip
      refine At.callVR rfl rfl rfl (.cons (.t rfl) .nil) (by (exact .nil)) (fun hg => p_Head (by omega) (by omega)) (Cl.kept (by (exact keepOf (by (apply List.Sublist.cons; apply List.Sublist.cons; apply List.Sublist.cons; exact List.Sublist.refl _))))) ?_
      refine At.s rfl rfl rfl rfl (Cl.kept (by (exact keepOf (by (apply List.Sublist.cons; apply List.Sublist.cons; apply List.Sublist.cons; exact List.Sublist.refl _))))) (R.addI (.t rfl) .c (fun hg => by omega)) ?_
      refine At.nil ?_
      exact At.weak (Sub.look (.cons rfl (.cons rfl (.cons rfl (.cons rfl (.cons rfl (.cons rfl (.cons rfl (.cons rfl (.cons rfl (.cons rfl .nil))))))))))) (by (exact List.Sublist.refl _)) (g15 bm ml hml)
  have g20 : ∀ (_ : True), At w 40 [] [(17, true, .agg #[.int .i64 a, .int .i64 b, .int .i64 (c : Int), .int .i64 d]), (18, true, .int .i64 (21 + a + 3 * b)), (19, true, .agg #[.int .i64 a, .int .i64 b, .int .i64 (c : Int), .int .i64 d]), (20, true, .int .i64 (7 + a)), (21, true, .int .i64 (7 + a + 0)), (22, true, .agg #[.int .i64 a, .int .i64 b, .int .i64 (c : Int), .int .i64 d]), (25, true, .agg #[.int .i64 a, .int .i64 b, .int .i64 (c : Int), .int .i64 d]), (1, true, .pointer (some ⟨b1, 0, none⟩)), (5, true, .pointer (some ⟨ba, 0, none⟩))] ([arB ba wv A0, arW wv c A0, .blk b1 (.cells #[.int .i64 a, .int .i64 b, .int .i64 (c : Int), .int .i64 d] 26)]) ([]) (G 10 #[false, true, true, false, true, true, true, false, true, false, false, true, false, false, false, false, false]) := fun _ => by
    refine hnode _ _ _ _ [(0, [], 9, #[true, true, true, false, true, true, true, false, true, false, false, true, false, false, false, false, false]), (9, [(true, 10)], 8, #[false, true, true, false, true, true, true, false, true, true, true, true, false, false, false, false, false])] (by kernel_rfl) (Cl.kept (by (exact keepOf (by (apply List.Sublist.cons; apply List.Sublist.cons; exact List.Sublist.refl _))))) ?_
    refine ⟨?_, ?_⟩
    · skip
      refine At.makeMap kfZ vfZ rfl rfl rfl (fun b2 hb2 => ⟨(Cl.kept (by (exact keepOf (by (apply List.Sublist.cons; apply List.Sublist.cons; apply List.Sublist.cons; exact List.Sublist.refl _))))), ?_⟩)
      refine At.nil ?_
      exact At.weak (Sub.look (.cons rfl (.cons rfl (.cons rfl (.cons rfl (.cons rfl (.cons rfl (.cons rfl (.cons rfl (.cons rfl (.cons rfl .nil))))))))))) (by (exact List.Sublist.refl _)) (g18 b2 [] (.refl _))
    · skip
      refine At.callVR rfl rfl rfl (.cons (.t rfl) .nil) (by (exact .nil)) (fun hg => p_Head (by omega) (by omega)) (Cl.kept (by (exact keepOf (by (apply List.Sublist.cons; apply List.Sublist.cons; exact List.Sublist.refl _))))) ?_
      refine At.s rfl rfl rfl rfl (Cl.kept (by (exact keepOf (by (apply List.Sublist.cons; apply List.Sublist.cons; exact List.Sublist.refl _))))) (R.addI (.t rfl) .c (fun hg => by omega)) ?_
      refine At.nil ?_
      exact At.weak (Sub.look (.cons rfl (.cons rfl (.cons rfl (.cons rfl (.cons rfl (.cons rfl (.cons rfl (.cons rfl (.cons rfl (.cons rfl (.cons rfl .nil)))))))))))) (by (exact List.Sublist.refl _)) (g17 trivial)
  have g21 : ∀ (bm : Nat) (ml : List (Int × Int)) (hml : ml.Perm []), At w 40 [] [(16, true, .map (some bm)), (17, true, .agg #[.int .i64 a, .int .i64 b, .int .i64 (c : Int), .int .i64 d]), (18, true, .int .i64 (21 + a + 3 * b)), (19, true, .agg #[.int .i64 a, .int .i64 b, .int .i64 (c : Int), .int .i64 d]), (22, true, .agg #[.int .i64 a, .int .i64 b, .int .i64 (c : Int), .int .i64 d]), (25, true, .agg #[.int .i64 a, .int .i64 b, .int .i64 (c : Int), .int .i64 d]), (1, true, .pointer (some ⟨b1, 0, none⟩)), (5, true, .pointer (some ⟨ba, 0, none⟩))] (mapE kfZ vfZ bm ml :: [arB ba wv A0, arW wv c A0, .blk b1 (.cells #[.int .i64 a, .int .i64 b, .int .i64 (c : Int), .int .i64 d] 26)]) ([]) (G 11 #[true, true, true, false, true, false, false, false, true, false, false, true, false, false, false, false, false]) := fun bm ml hml => by
    refine hnode _ _ _ _ [(3, [], 10, #[true, true, true, true, true, false, false, false, true, false, false, true, false, false, false, false, false]), (5, [(true, 6)], 9, #[true, true, true, false, true, true, true, false, true, false, false, true, false, false, false, false, false])] (by kernel_rfl) (Cl.kept (by (exact keepOf (by (apply List.Sublist.cons; apply List.Sublist.cons; apply List.Sublist.cons; exact List.Sublist.refl _))))) ?_
    refine ⟨?_, ?_⟩
    · skip
      refine At.mapIns (kf := kfZ) (vf := vfZ) (ml := ml) (k := (((2 : Int), 21 + a + 3 * b)).1) (v := (((2 : Int), 21 + a + 3 * b)).2) rfl rfl Try.underlying55 (keyOk_int Try.underlying3) (.t rfl) .c (.t rfl) (.n U0) ⟨(Cl.kept (by (exact keepOf (by (apply List.Sublist.cons; apply List.Sublist.cons; apply List.Sublist.cons; exact List.Sublist.refl _))))), ?_⟩
      refine At.nil ?_
      exact At.weak (Sub.look (.cons rfl (.cons rfl (.cons rfl (.cons rfl (.cons rfl (.cons rfl (.cons rfl (.cons rfl .nil))))))))) (by (exact List.Sublist.refl _)) (g19 bm (aput ml (((2 : Int), 21 + a + 3 * b)).1 (((2 : Int), 21 + a + 3 * b)).2) ((perm_put hml (by intro e he; (simp at he; done))).trans (by exact .refl _)))
    · skip
      refine At.callVR rfl rfl rfl (.cons (.t rfl) .nil) (by (exact .nil)) (fun hg => p_Head (by omega) (by omega)) (Cl.kept (by (exact keepOf (by (apply List.Sublist.cons; apply List.Sublist.cons; apply List.Sublist.cons; exact List.Sublist.refl _))))) ?_
      refine At.s rfl rfl rfl rfl (Cl.kept (by (exact keepOf (by (apply List.Sublist.cons; apply List.Sublist.cons; apply List.Sublist.cons; exact List.Sublist.refl _))))) (R.addI (.t rfl) .c (fun hg => by omega)) ?_
      refine At.nil ?_
      exact At.weak (Sub.look (.cons rfl (.cons rfl (.cons rfl (.cons rfl (.cons rfl (.cons rfl (.cons rfl (.cons rfl (.cons rfl (.cons rfl .nil))))))))))) (by (exact List.Sublist.refl _)) (g18 bm ml hml)
  have g22 : ∀ (bm : Nat) (ml : List (Int × Int)) (hml : ml.Perm []), At w 40 [] [(16, true, .map (some bm)), (17, true, .agg #[.int .i64 a, .int .i64 b, .int .i64 (c : Int), .int .i64 d]), (19, true, .agg #[.int .i64 a, .int .i64 b, .int .i64 (c : Int), .int .i64 d]), (22, true, .agg #[.int .i64 a, .int .i64 b, .int .i64 (c : Int), .int .i64 d]), (25, true, .agg #[.int .i64 a, .int .i64 b, .int .i64 (c : Int), .int .i64 d]), (1, true, .pointer (some ⟨b1, 0, none⟩)), (5, true, .pointer (some ⟨ba, 0, none⟩))] (mapE kfZ vfZ bm ml :: [arB ba wv A0, arW wv c A0, .blk b1 (.cells #[.int .i64 a, .int .i64 b, .int .i64 (c : Int), .int .i64 d] 26)]) ([]) (G 12 #[true, true, false, false, true, false, false, false, true, false, false, true, false, false, false, false, false]) := fun bm ml hml => by
    refine hnode _ _ _ _ [(2, [], 11, #[true, true, true, false, true, false, false, false, true, false, false, true, false, false, false, false, false])] (by kernel_rfl) (Cl.kept (by (exact keepOf (by (apply List.Sublist.cons; apply List.Sublist.cons; apply List.Sublist.cons; exact List.Sublist.refl _))))) ?_
    · skip
      refine At.callVR rfl rfl rfl (.cons (.t rfl) .nil) (by (exact .nil)) (fun hg => p_Top (by omega) (by omega) (by omega) (by omega)) (Cl.kept (by (exact keepOf (by (apply List.Sublist.cons; apply List.Sublist.cons; apply List.Sublist.cons; exact List.Sublist.refl _))))) ?_
      refine At.nil ?_
      exact At.weak (Sub.look (.cons rfl (.cons rfl (.cons rfl (.cons rfl (.cons rfl (.cons rfl (.cons rfl (.cons rfl .nil))))))))) (by (exact List.Sublist.refl _)) (g21 bm ml hml)
  have g23 : ∀ (_ : True), At w 40 [] [(17, true, .agg #[.int .i64 a, .int .i64 b, .int .i64 (c : Int), .int .i64 d]), (18, true, .int .i64 (21 + a + 3 * b)), (19, true, .agg #[.int .i64 a, .int .i64 b, .int .i64 (c : Int), .int .i64 d]), (22, true, .agg #[.int .i64 a, .int .i64 b, .int .i64 (c : Int), .int .i64 d]), (25, true, .agg #[.int .i64 a, .int .i64 b, .int .i64 (c : Int), .int .i64 d]), (1, true, .pointer (some ⟨b1, 0, none⟩)), (5, true, .pointer (some ⟨ba, 0, none⟩))] ([arB ba wv A0, arW wv c A0, .blk b1 (.cells #[.int .i64 a, .int .i64 b, .int .i64 (c : Int), .int .i64 d] 26)]) ([]) (G 12 #[false, true, true, false, true, false, false, false, true, false, false, true, false, false, false, false, false]) := fun _ => by
    refine hnode _ _ _ _ [(0, [], 11, #[true, true, true, false, true, false, false, false, true, false, false, true, false, false, false, false, false]), (5, [(true, 6)], 10, #[false, true, true, false, true, true, true, false, true, false, false, true, false, false, false, false, false])] (by kernel_rfl) (Cl.kept (by (exact keepOf (by (apply List.Sublist.cons; apply List.Sublist.cons; exact List.Sublist.refl _))))) ?_
    refine ⟨?_, ?_⟩
    · skip
      refine At.makeMap kfZ vfZ rfl rfl rfl (fun b2 hb2 => ⟨(Cl.kept (by (exact keepOf (by (apply List.Sublist.cons; apply List.Sublist.cons; apply List.Sublist.cons; exact List.Sublist.refl _))))), ?_⟩)
      refine At.nil ?_
      exact At.weak (Sub.look (.cons rfl (.cons rfl (.cons rfl (.cons rfl (.cons rfl (.cons rfl (.cons rfl (.cons rfl .nil))))))))) (by (exact List.Sublist.refl _)) (g21 b2 [] (.refl _))
    · skip
      refine At.callVR rfl rfl rfl (.cons (.t rfl) .nil) (by (exact .nil)) (fun hg => p_Head (by omega) (by omega)) (Cl.kept (by (exact keepOf (by (apply List.Sublist.cons; apply List.Sublist.cons; exact List.Sublist.refl _))))) ?_
      refine At.s rfl rfl rfl rfl (Cl.kept (by (exact keepOf (by (apply List.Sublist.cons; apply List.Sublist.cons; exact List.Sublist.refl _))))) (R.addI (.t rfl) .c (fun hg => by omega)) ?_
      refine At.nil ?_
      exact At.weak (Sub.look (.cons rfl (.cons rfl (.cons rfl (.cons rfl (.cons rfl (.cons rfl (.cons rfl (.cons rfl (.cons rfl .nil)))))))))) (by (exact List.Sublist.refl _)) (g20 trivial)
  have g24 : ∀ (_ : True), At w 40 [] [(17, true, .agg #[.int .i64 a, .int .i64 b, .int .i64 (c : Int), .int .i64 d]), (19, true, .agg #[.int .i64 a, .int .i64 b, .int .i64 (c : Int), .int .i64 d]), (22, true, .agg #[.int .i64 a, .int .i64 b, .int .i64 (c : Int), .int .i64 d]), (25, true, .agg #[.int .i64 a, .int .i64 b, .int .i64 (c : Int), .int .i64 d]), (1, true, .pointer (some ⟨b1, 0, none⟩)), (5, true, .pointer (some ⟨ba, 0, none⟩))] ([arB ba wv A0, arW wv c A0, .blk b1 (.cells #[.int .i64 a, .int .i64 b, .int .i64 (c : Int), .int .i64 d] 26)]) ([]) (G 13 #[false, true, false, false, true, false, false, false, true, false, false, true, false, false, false, false, false]) := fun _ => by
    refine hnode _ _ _ _ [(0, [], 12, #[true, true, false, false, true, false, false, false, true, false, false, true, false, false, false, false, false]), (2, [], 12, #[false, true, true, false, true, false, false, false, true, false, false, true, false, false, false, false, false])] (by kernel_rfl) (Cl.kept (by (exact keepOf (by (apply List.Sublist.cons; apply List.Sublist.cons; exact List.Sublist.refl _))))) ?_
    refine ⟨?_, ?_⟩
    · skip
      refine At.makeMap kfZ vfZ rfl rfl rfl (fun b2 hb2 => ⟨(Cl.kept (by (exact keepOf (by (apply List.Sublist.cons; apply List.Sublist.cons; apply List.Sublist.cons; exact List.Sublist.refl _))))), ?_⟩)
      refine At.nil ?_
      exact At.weak (Sub.look (.cons rfl (.cons rfl (.cons rfl (.cons rfl (.cons rfl (.cons rfl (.cons rfl .nil)))))))) (by (exact List.Sublist.refl _)) (g22 b2 [] (.refl _))
    · skip
      refine At.callVR rfl rfl rfl (.cons (.t rfl) .nil) (by (exact .nil)) (fun hg => p_Top (by omega) (by omega) (by omega) (by omega)) (Cl.kept (by (exact keepOf (by (apply List.Sublist.cons; apply List.Sublist.cons; exact List.Sublist.refl _))))) ?_
      refine At.nil ?_
      exact At.weak (Sub.look (.cons rfl (.cons rfl (.cons rfl (.cons rfl (.cons rfl (.cons rfl (.cons rfl .nil)))))))) (by (exact List.Sublist.refl _)) (g23 trivial)
  refine At.s rfl rfl rfl rfl (Cl.kept (by (exact keepOf (by (apply List.Sublist.cons; apply List.Sublist.cons; exact List.Sublist.refl _))))) (R.loadAgg (vs := [_, _, _, _]) Try.underlying26 rfl sz_26 (.t rfl) (by exact csK M0 ⟨rfl, rfl, rfl, rfl, trivial⟩)) ?_
  refine At.s rfl rfl rfl rfl (Cl.kept (by (exact keepOf (by (apply List.Sublist.cons; apply List.Sublist.cons; exact List.Sublist.refl _))))) (R.loadAgg (vs := [_, _, _, _]) Try.underlying26 rfl sz_26 (.t rfl) (by exact csK M0 ⟨rfl, rfl, rfl, rfl, trivial⟩)) ?_
  refine At.s rfl rfl rfl rfl (Cl.kept (by (exact keepOf (by (apply List.Sublist.cons; apply List.Sublist.cons; exact List.Sublist.refl _))))) (R.loadAgg (vs := [_, _, _, _]) Try.underlying26 rfl sz_26 (.t rfl) (by exact csK M0 ⟨rfl, rfl, rfl, rfl, trivial⟩)) ?_
  refine At.s rfl rfl rfl rfl (Cl.kept (by (exact keepOf (by (apply List.Sublist.cons; apply List.Sublist.cons; exact List.Sublist.refl _))))) (R.loadAgg (vs := [_, _, _, _]) Try.underlying26 rfl sz_26 (.t rfl) (by exact csK M0 ⟨rfl, rfl, rfl, rfl, trivial⟩)) ?_
  refine At.nil ?_
  exact At.weak (Sub.look (.cons rfl (.cons rfl (.cons rfl (.cons rfl (.cons rfl (.cons rfl .nil))))))) (by (exact List.Sublist.refl _)) (g24 trivial)

end Go.Proofs.Ytimclnhklaldfaa
