/- K3 -/
import Derived.Test.YtimclnhklaldfaaKeyT
import Derived.Test.YtimclnhklaldfaaK2
namespace Go.Proofs.Ytimclnhklaldfaa
open Go Go.RowKit
set_option maxRecDepth 10000
set_option linter.unusedVariables false
theorem et_45 : elemTab Try.prog 45 = some (3, 24) := by kernel_rfl


theorem take_snocT {α : Type} [Inhabited α] {l : List α} {i : Nat} (h : i < l.length) : l.take (i + 1) = l.take i ++ [gE l (i : Int)] := by
  rw [List.take_succ_eq_append_getElem h]; simp [gE, h]
theorem sortZ_perm (l : List Int) : (sortZ l).Perm l := List.mergeSort_perm l _
theorem sortZ_rise (l : List Int) : (sortZ l).Pairwise (· ≤ ·) := by
  have := List.pairwise_mergeSort (le := fun x y : Int => decide (x ≤ y)) (by intro a b c h1 h2; simp at *; omega) (by intro a b; simp; omega) l
  exact this.imp fun {a b} h => by simpa using h
theorem m_Keys {b : Nat} : Fn Try.prog 36 [.map (some b)] ([]) ([]) (fun v N H => ∃ bm, v = .func (.func 52) #[] #[.pointer (some ⟨bm, 0, none⟩)] ∧ N = [.blk bm (.cells #[.map (some b)] 64)] ∧ H = []) := by
  refine Fn.enter Try.func36 (by kernel_rfl) rfl (n := 4) rfl rfl (fun w => ?_)
  refine At.seq ?_
  refine At.plain [(false, 0), (false, 1)] rfl ?_
  refine At.box rfl rfl rfl (.t rfl) (fun b1 hb1 => ⟨.all, ?_⟩)
  refine At.e rfl rfl rfl rfl .all (R.assign .c) ?_
  refine At.nil ?_
  refine At.tN ?_
  refine At.seq ?_
  refine At.plain [(false, 0), (false, 1)] rfl ?_
  refine At.e rfl rfl rfl rfl .all (R.makeFunc .nil (.cons (.t rfl) .nil)) ?_
  refine At.e rfl rfl rfl rfl .all (R.assign (.t rfl)) ?_
  refine At.nil ?_
  refine At.tN ?_
  refine At.ret ?_
  exact At.final (N' := [.blk b1 (.cells #[.map (some b)] 64)]) rfl (.t rfl) (by (((repeat (first | exact List.Sublist.refl _ | exact List.nil_sublist _ | apply List.Sublist.cons_cons | apply List.Sublist.cons | exact List.sublist_append_right _ _ | exact List.sublist_append_left _ _ | apply List.Sublist.append_left | apply List.sublist_append_of_sublist_right)) <;> fail))) (⟨b1, rfl, rfl, rfl⟩)

theorem m_Sorted {bm b : Nat} {ml : List (Int × Itm)} (hN : ml.length ≤ 1000000) : Fn Try.prog 35 [.func (.func 52) #[] #[.pointer (some ⟨bm, 0, none⟩)]] ([mapE kfZ vfT b ml, .blk bm (.cells #[.map (some b)] 64)]) ([]) (IsRE zK 3 (fun ys => ys.Perm (ml.map (·.1)) ∧ ys.Pairwise (· ≤ ·))) := by
  refine Fn.enter Try.func35 (by kernel_rfl) rfl (n := 9) rfl rfl (fun w => ?_)
  refine At.seq ?_
  refine At.plain [(false, 0)] rfl ?_
  refine At.e rfl rfl rfl rfl .all (R.assign .c) ?_
  refine At.nil ?_
  refine At.tN ?_
  refine At.seq ?_
  refine At.plain [(false, 0), (false, 1), (false, 2)] rfl ?_
  refine At.e rfl rfl rfl rfl .all (R.move (.t rfl)) ?_
  refine At.callP (fst := []) (cap := []) rfl rfl rfl Ev.f (.cons (.t rfl) .nil) rfl (c_collect (bm := bm) (b := b) (ml := ml) hN) (Rds.blk (.st M0) (Rds.blk (.st M1) .nil)).all (fun v N1 H1 hR => ?_); obtain ⟨xs, hxs, rfl, rfl⟩ := hR; have hxl : xs.length = ml.length := (by rw [hxs.length_eq, List.length_map]); refine ⟨rfl, .all, ?_⟩
  refine At.e rfl rfl rfl rfl .all (R.assign (.t rfl)) ?_
  refine At.nil ?_
  refine At.tN ?_
  refine At.seq ?_
  refine At.plain [(false, 0), (false, 1)] rfl ?_
  refine At.e rfl rfl rfl rfl .all (R.move (.t rfl)) ?_
  refine At.callM (fst := []) (cap := []) rfl rfl rfl Ev.f (.cons (.t rfl) .nil) rfl (.n (.take .nil)) .nil (c_sortM (l := xs) (n := xs.length) rfl (by omega)) rfl .nil ⟨.all, ?_⟩
  refine At.nil ?_
  refine At.tN ?_
  refine At.seq ?_
  refine At.plain [(false, 0), (false, 1)] rfl ?_
  refine At.e rfl rfl rfl rfl .all (R.move (.t rfl)) ?_
  refine At.e rfl rfl rfl rfl .all (R.assign (.t rfl)) ?_
  refine At.nil ?_
  refine At.tN ?_
  refine At.ret ?_
  refine At.re (N' := [rowE zK 3 v (sortZ xs)]) (by rw [rowE, sortZ_length]; rfl) ?_
  exact At.final (N' := [rowE zK 3 v (sortZ xs)]) rfl (.t rfl) (by (((repeat (first | exact List.Sublist.refl _ | exact List.nil_sublist _ | apply List.Sublist.cons_cons | apply List.Sublist.cons | exact List.sublist_append_right _ _ | exact List.sublist_append_left _ _ | apply List.Sublist.append_left | apply List.sublist_append_of_sublist_right)) <;> fail))) (⟨sortZ xs, ⟨(sortZ_perm xs).trans hxs, sortZ_rise xs⟩, rfl, rfl⟩)

theorem k_Items {b bm : Nat} {x : Lk} (hN : x.ml.length ≤ 1000) : Fn Try.prog 17 [.pointer (some ⟨b, 0, none⟩)] ([lkB b bm x, lkM bm x]) ([]) (IsRE iK 45 (fun zs => ∃ ys : List Int, ys.Perm (x.ml.map (·.1)) ∧ ys.Pairwise (· ≤ ·) ∧ zs = ys.map fun k => (aget x.ml k).getD default)) := by
  refine Fn.enter Try.func17 (by kernel_rfl) rfl (n := 28) rfl rfl (fun w => ?_)
  refine At.seq ?_
  refine At.plain [(false, 0)] rfl ?_
  refine At.e rfl rfl rfl rfl .all (R.assign .c) ?_
  refine At.nil ?_
  refine At.tN ?_
  refine At.seq ?_
  refine At.plain [(false, 0)] rfl ?_
  refine At.e rfl rfl rfl rfl .all (R.assign .c) ?_
  refine At.nil ?_
  refine At.tN ?_
  refine At.seq ?_
  refine At.seq ?_
  refine At.plain [(false, 0), (false, 1), (false, 2), (false, 3), (false, 4), (false, 5), (false, 6), (false, 7)] rfl ?_
  refine At.e rfl rfl rfl rfl .all (R.move (.t rfl)) ?_
  refine At.e rfl rfl rfl rfl .all (R.nilCheckP (.t rfl)) ?_
  first | refine At.e rfl rfl rfl rfl .all (R.fieldAddr fo_66_11 (.t rfl)) ?_ | refine At.e rfl rfl rfl rfl .all (R.fieldRd fo_66_11 (.t rfl) (by (first | exact rS M0 | exact wS M0 | exact rS M1 | exact wS M1 | exact rS M2 | exact wS M2 | exact rS M3 | exact wS M3 | exact rS M4 | exact wS M4 | exact rS M5 | exact wS M5 | exact rS M6 | exact wS M6 | exact rS M7 | exact wS M7 | exact rS M8 | exact wS M8 | exact rS M9 | exact wS M9 | exact RdIn.nil | exact (fun w hw => hrK w (Cl.kept (by (first | exact fun _ h => h | exact keepOf (by (((repeat (first | exact List.Sublist.refl _ | exact List.nil_sublist _ | apply List.Sublist.cons_cons | apply List.Sublist.cons | exact List.sublist_append_right _ _ | exact List.sublist_append_left _ _ | apply List.Sublist.append_left | apply List.sublist_append_of_sublist_right)) <;> fail))))) w hw)))) (fun hg => (by first | omega | ((simp [-List.length_eq_zero_iff] at hg; omega)) | (simp only [List.length_append, List.length_cons, List.length_nil, List.length_take, List.length_drop]; omega)))) ?_
  refine At.e rfl rfl rfl rfl .all (R.load Try.underlying64 rfl (.t rfl) (by first | exact cS M0 rfl | exact cS M1 rfl | exact cS M2 rfl | exact cS M3 rfl | exact cS M4 rfl | exact cS M5 rfl | exact cS M6 rfl | exact cS M7 rfl)) ?_
  refine At.callP (fst := []) (cap := []) rfl rfl rfl Ev.f (.cons (.t rfl) .nil) rfl (m_Keys (b := bm)) (fun _ h => nomatch h) (fun v N1 H1 hR => ?_); obtain ⟨bq, rfl, rfl, rfl⟩ := hR; refine ⟨rfl, .all, ?_⟩
  refine At.callP (fst := []) (cap := []) rfl rfl rfl Ev.f (.cons (.t rfl) .nil) rfl (m_Sorted (bm := bq) (b := bm) (ml := x.ml) (by omega)) (Rds.blk (.st M1) (Rds.blk (.st M2) .nil)).all (fun vk N1 H1 hR => ?_); obtain ⟨ys, hys, rfl, rfl⟩ := hR; have hyl : ys.length = x.ml.length := (by rw [hys.1.length_eq, List.length_map]); refine ⟨rfl, .all, ?_⟩
  first | refine At.e rfl rfl rfl rfl .all (R.lenRd Try.underlying57 (.t rfl) (by (first | exact rS M0 | exact wS M0 | exact rS M1 | exact wS M1 | exact rS M2 | exact wS M2 | exact rS M3 | exact wS M3 | exact rS M4 | exact wS M4 | exact rS M5 | exact wS M5 | exact rS M6 | exact wS M6 | exact rS M7 | exact wS M7 | exact rS M8 | exact wS M8 | exact rS M9 | exact wS M9 | exact RdIn.nil | exact (fun w hw => hrK w (Cl.kept (by (first | exact fun _ h => h | exact keepOf (by (((repeat (first | exact List.Sublist.refl _ | exact List.nil_sublist _ | apply List.Sublist.cons_cons | apply List.Sublist.cons | exact List.sublist_append_right _ _ | exact List.sublist_append_left _ _ | apply List.Sublist.append_left | apply List.sublist_append_of_sublist_right)) <;> fail))))) w hw))))) ?_ | refine At.e rfl rfl rfl rfl .all (R.lenSl Try.underlying57 (.t rfl)) ?_
  refine At.e rfl rfl rfl rfl .all (R.move .c) ?_
  refine At.nil ?_
  refine At.tN ?_
  refine At.block ?_
  refine At.nilRow iK 45 ?_
  refine At.loop3 (fun (i : Nat) (out : List Itm) (vo : Value) => i ≤ ys.length ∧ out = (ys.take i).map (fun k => (aget x.ml k).getD default) ∧ out.length = i) (fun (i : Nat) (out : List Itm) (vo : Value) => ys.length - i) (fun (i : Nat) (out : List Itm) (vo : Value) => [(0, true, .pointer (some ⟨b, 0, none⟩)), (3, true, vo), (11, true, vk), (12, true, .int .i64 ys.length), (13, true, .int .i64 i)]) (fun (i : Nat) (out : List Itm) (vo : Value) => [rowE iK 45 vo out, rowE zK 3 vk ys]) (fun (i : Nat) (out : List Itm) (vo : Value) => []) (0) ([]) (.slice none 0 0) ⟨Nat.zero_le _, rfl, rfl⟩ (.cons rfl (.cons rfl (.cons rfl (.cons rfl (.cons rfl .nil))))) (by (((repeat (first | exact List.Sublist.refl _ | exact List.nil_sublist _ | apply List.Sublist.cons_cons | apply List.Sublist.cons | exact List.sublist_append_right _ _ | exact List.sublist_append_left _ _ | apply List.Sublist.append_left | apply List.sublist_append_of_sublist_right)) <;> fail))) rfl (fun i out vo hi => ?_)
  obtain ⟨hi1, hi2, hi3⟩ := hi
  refine At.seq ?_
  refine At.plain [(false, 0)] rfl ?_
  first | refine At.e rfl rfl rfl rfl .all (R.as (R.lss (.t rfl) (.t rfl)) (fun _ => congrArg Value.bool (decide_eq_true (by omega)))) ?_ | refine At.e rfl rfl rfl rfl .all (R.as (R.lss (.t rfl) (.t rfl)) (fun _ => congrArg Value.bool (decide_eq_false (by omega)))) ?_ | refine At.e rfl rfl rfl rfl .all (R.lss (.t rfl) (.t rfl)) ?_
  refine At.nil ?_
  refine At.tN ?_
  refine At.seq ?_
  first | refine At.condD (.t rfl) (fun c1 => ?_) (fun c1 => ?_) | refine At.condN (.t rfl) (fun c1 => ?_) (fun c1 => ?_) | refine At.cond (.t rfl) (fun c1 => ?_) (fun c1 => ?_)
  · skip
    refine At.skip ?_
    refine At.tN ?_
    refine At.seq ?_
    refine At.block ?_
    refine At.seq ?_
    refine At.plain [(false, 0), (false, 1), (false, 2)] rfl ?_
    first | refine At.e rfl rfl rfl rfl .all (R.indexRd Try.underlying57 sz_3 (.t rfl) (by (first | exact rS M0 | exact wS M0 | exact rS M1 | exact wS M1 | exact rS M2 | exact wS M2 | exact rS M3 | exact wS M3 | exact rS M4 | exact wS M4 | exact rS M5 | exact wS M5 | exact rS M6 | exact wS M6 | exact rS M7 | exact wS M7 | exact rS M8 | exact wS M8 | exact rS M9 | exact wS M9 | exact RdIn.nil | exact (fun w hw => hrK w (Cl.kept (by (first | exact fun _ h => h | exact keepOf (by (((repeat (first | exact List.Sublist.refl _ | exact List.nil_sublist _ | apply List.Sublist.cons_cons | apply List.Sublist.cons | exact List.sublist_append_right _ _ | exact List.sublist_append_left _ _ | apply List.Sublist.append_left | apply List.sublist_append_of_sublist_right)) <;> fail))))) w hw)))) (.t rfl) (fun hg => (by first | omega | ((simp [-List.length_eq_zero_iff] at hg; omega)) | (simp only [List.length_append, List.length_cons, List.length_nil, List.length_take, List.length_drop]; omega)))) ?_ | refine At.e rfl rfl rfl rfl .all (R.indexSlE Try.underlying57 sz_3 (.t rfl) (.t rfl) (fun hg => by first | omega | (simp [-List.length_eq_zero_iff] at hg; omega))) ?_
    first | refine At.e rfl rfl rfl rfl .all (R.loadRd Try.underlying3 rfl (.t rfl) (by (first | exact rS M0 | exact wS M0 | exact rS M1 | exact wS M1 | exact rS M2 | exact wS M2 | exact rS M3 | exact wS M3 | exact rS M4 | exact wS M4 | exact rS M5 | exact wS M5 | exact rS M6 | exact wS M6 | exact rS M7 | exact wS M7 | exact rS M8 | exact wS M8 | exact rS M9 | exact wS M9 | exact RdIn.nil | exact (fun w hw => hrK w (Cl.kept (by (first | exact fun _ h => h | exact keepOf (by (((repeat (first | exact List.Sublist.refl _ | exact List.nil_sublist _ | apply List.Sublist.cons_cons | apply List.Sublist.cons | exact List.sublist_append_right _ _ | exact List.sublist_append_left _ _ | apply List.Sublist.append_left | apply List.sublist_append_of_sublist_right)) <;> fail))))) w hw)))) (fun hg => by exact Ek.getN rfl (by first | omega | ((simp [-List.length_eq_zero_iff] at hg; omega)) | (simp only [List.length_append, List.length_cons, List.length_nil, List.length_take, List.length_drop]; omega)))) ?_ | refine At.e rfl rfl rfl rfl .all (R.loadRd Try.underlying3 rfl (.t rfl) (by (first | exact rS M0 | exact wS M0 | exact rS M1 | exact wS M1 | exact rS M2 | exact wS M2 | exact rS M3 | exact wS M3 | exact rS M4 | exact wS M4 | exact rS M5 | exact wS M5 | exact rS M6 | exact wS M6 | exact rS M7 | exact wS M7 | exact rS M8 | exact wS M8 | exact rS M9 | exact wS M9 | exact RdIn.nil | exact (fun w hw => hrK w (Cl.kept (by (first | exact fun _ h => h | exact keepOf (by (((repeat (first | exact List.Sublist.refl _ | exact List.nil_sublist _ | apply List.Sublist.cons_cons | apply List.Sublist.cons | exact List.sublist_append_right _ _ | exact List.sublist_append_left _ _ | apply List.Sublist.append_left | apply List.sublist_append_of_sublist_right)) <;> fail))))) w hw)))) (fun hg => by exact Ek.get0 rfl (by first | omega | ((simp [-List.length_eq_zero_iff] at hg; omega)) | (simp only [List.length_append, List.length_cons, List.length_nil, List.length_take, List.length_drop]; omega)))) ?_
    refine At.e rfl rfl rfl rfl .all (R.assign (.t rfl)) ?_
    refine At.nil ?_
    refine At.tN ?_
    refine At.plain [(false, 0), (false, 1), (false, 2), (false, 3), (false, 4), (false, 5), (false, 6), (false, 7), (false, 8), (false, 9)] rfl ?_
    refine At.e rfl rfl rfl rfl .all (R.move (.t rfl)) ?_
    refine At.e rfl rfl rfl rfl .all (R.move (.t rfl)) ?_
    refine At.e rfl rfl rfl rfl .all (R.nilCheckP (.t rfl)) ?_
    first | refine At.e rfl rfl rfl rfl .all (R.fieldAddr fo_66_11 (.t rfl)) ?_ | refine At.e rfl rfl rfl rfl .all (R.fieldRd fo_66_11 (.t rfl) (by (first | exact rS M0 | exact wS M0 | exact rS M1 | exact wS M1 | exact rS M2 | exact wS M2 | exact rS M3 | exact wS M3 | exact rS M4 | exact wS M4 | exact rS M5 | exact wS M5 | exact rS M6 | exact wS M6 | exact rS M7 | exact wS M7 | exact rS M8 | exact wS M8 | exact rS M9 | exact wS M9 | exact RdIn.nil | exact (fun w hw => hrK w (Cl.kept (by (first | exact fun _ h => h | exact keepOf (by (((repeat (first | exact List.Sublist.refl _ | exact List.nil_sublist _ | apply List.Sublist.cons_cons | apply List.Sublist.cons | exact List.sublist_append_right _ _ | exact List.sublist_append_left _ _ | apply List.Sublist.append_left | apply List.sublist_append_of_sublist_right)) <;> fail))))) w hw)))) (fun hg => (by first | omega | ((simp [-List.length_eq_zero_iff] at hg; omega)) | (simp only [List.length_append, List.length_cons, List.length_nil, List.length_take, List.length_drop]; omega)))) ?_
    refine At.e rfl rfl rfl rfl .all (R.load Try.underlying64 rfl (.t rfl) (by first | exact cS M0 rfl | exact cS M1 rfl | exact cS M2 rfl | exact cS M3 rfl | exact cS M4 rfl | exact cS M5 rfl | exact cS M6 rfl | exact cS M7 rfl)) ?_
    refine At.e rfl rfl rfl rfl .all (R.move (.t rfl)) ?_
    refine At.e rfl rfl rfl rfl .all (R.as (R.lookup (kf := kfZ) (vf := vfT) Try.underlying64 (keyOk_int Try.underlying3) ze_45 (.t rfl) (.t rfl) (by first | exact Holds.st M0 | exact Holds.st M1 | exact Holds.st M2 | exact Holds.st M3 | exact Holds.st M4 | exact Holds.st M5)) (fun _ => agetT x.ml (gE ys (i : Int)))) ?_
    refine At.lit (k := iK) rfl rfl rfl Try.underlying42 et_45 (.cons (.t rfl) .nil) (.cons rfl .nil) rfl rfl rfl (fun v1 => ⟨.all, ?_⟩)
    refine At.app (k := iK) rfl rfl rfl Try.underlying42 et_45 (.t rfl) (.t rfl) (fun _ => by (first | exact U0 | exact U1 | exact U2 | exact U3 | exact U4 | exact U5 | exact U6 | exact U7)) (by (first | exact rS M0 | exact wS M0 | exact rS M1 | exact wS M1 | exact rS M2 | exact wS M2 | exact rS M3 | exact wS M3 | exact rS M4 | exact wS M4 | exact rS M5 | exact wS M5 | exact rS M6 | exact wS M6 | exact rS M7 | exact wS M7 | exact rS M8 | exact wS M8 | exact rS M9 | exact wS M9 | exact RdIn.nil | exact (fun w hw => hrK w (Cl.kept (by (first | exact fun _ h => h | exact keepOf (by (((repeat (first | exact List.Sublist.refl _ | exact List.nil_sublist _ | apply List.Sublist.cons_cons | apply List.Sublist.cons | exact List.sublist_append_right _ _ | exact List.sublist_append_left _ _ | apply List.Sublist.append_left | apply List.sublist_append_of_sublist_right)) <;> fail))))) w hw)))) (by first | (constructor <;> omega) | (simp <;> omega) | (simp only [List.length_append, List.length_cons, List.length_nil, List.length_take, List.length_drop]; omega)) (fun v2 => ⟨.all, ?_⟩)
    refine At.e rfl rfl rfl rfl .all (R.assign (.t rfl)) ?_
    refine At.nil ?_
    refine At.bN ?_
    refine At.tN ?_
    refine At.plain [(false, 0), (false, 1)] rfl ?_
    first | refine At.e rfl rfl rfl rfl .all (R.addI (.t rfl) .c (fun hg => by first | omega | (simp [-List.length_eq_zero_iff] at hg; omega))) ?_ | refine At.e rfl rfl rfl rfl .all (R.add (.t rfl) .c) ?_
    refine At.e rfl rfl rfl rfl .all (R.move (.t rfl)) ?_
    refine At.nil ?_
    refine At.tN ?_
    exact At.again3 (i + 1) (out ++ [(aget x.ml (gE ys (i : Int))).getD default]) (v2) ⟨by omega, by rw [hi2, take_snocT (by omega), List.map_append]; rfl, by simp; omega⟩ (by omega) (.cons rfl (.cons rfl (.cons rfl (.cons rfl (.cons rfl .nil))))) (by (((repeat (first | exact List.Sublist.refl _ | exact List.nil_sublist _ | apply List.Sublist.cons_cons | apply List.Sublist.cons | exact List.sublist_append_right _ _ | exact List.sublist_append_left _ _ | apply List.Sublist.append_left | apply List.sublist_append_of_sublist_right)) <;> fail))) rfl
  · skip
    refine At.exit ?_
    refine At.tE ?_
    refine At.tE ?_
    refine At.bE ?_
    refine At.tN ?_
    refine At.seq ?_
    refine At.plain [(false, 0), (false, 1)] rfl ?_
    refine At.e rfl rfl rfl rfl .all (R.move (.t rfl)) ?_
    refine At.e rfl rfl rfl rfl .all (R.assign (.t rfl)) ?_
    refine At.nil ?_
    refine At.tN ?_
    refine At.ret ?_
    exact At.final (N' := [rowE iK 45 vo out]) rfl (.t rfl) (by (((repeat (first | exact List.Sublist.refl _ | exact List.nil_sublist _ | apply List.Sublist.cons_cons | apply List.Sublist.cons | exact List.sublist_append_right _ _ | exact List.sublist_append_left _ _ | apply List.Sublist.append_left | apply List.sublist_append_of_sublist_right)) <;> fail))) (⟨out, ⟨ys, hys.1, hys.2, by rw [hi2, List.take_of_length_le (by omega)]⟩, rfl, rfl⟩)

end Go.Proofs.Ytimclnhklaldfaa
