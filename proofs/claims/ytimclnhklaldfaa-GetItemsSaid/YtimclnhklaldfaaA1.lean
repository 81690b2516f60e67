/- A1 -/
import Derived.Test.YtimclnhklaldfaaArP
import Derived.Test.YtimclnhklaldfaaProg
namespace Go.Proofs.Ytimclnhklaldfaa
open Go Go.RowKit
set_option maxRecDepth 10000
set_option linter.unusedVariables false
theorem bt_60 : buildTab Try.prog 60 = some (#[.int .i64 0, .int .i64 0, .int .i64 0, .int .i64 0, .bool false], [(0, 1), (1, 1), (2, 1), (3, 1), (4, 1)]) := by kernel_rfl
theorem fo_60_0 : fieldOff? Try.prog 60 0 = some 0 := by kernel_rfl
theorem fo_62_0 : fieldOff? Try.prog 62 0 = some 0 := by kernel_rfl
theorem fo_62_1 : fieldOff? Try.prog 62 1 = some 1 := by kernel_rfl
theorem fo_62_2 : fieldOff? Try.prog 62 2 = some 6 := by kernel_rfl
theorem sz_3 : (Try.prog.info? 3).map (·.size) = some 1 := by kernel_rfl
theorem sz_60 : (Try.prog.info? 60).map (·.size) = some 5 := by kernel_rfl

theorem a_is {b n : Nat} {wv : Value} {a : Ar} (hn : a.w.length = n) (hN : n ≤ 1000000) {i : Int} : Fn Try.prog 24 [.pointer (some ⟨b, 0, none⟩), .int .i64 i] ([arB b wv a, arR wv n a]) ([]) (IsV (.bool (a.hit i))) := by
  refine Fn.enter Try.func24 (by kernel_rfl) rfl (n := 16) rfl rfl (fun w => ?_)
  refine At.seq ?_
  refine At.plain [(false, 0)] rfl ?_
  refine At.e rfl rfl rfl rfl .all (R.assign .c) ?_
  refine At.nil ?_
  refine At.tN ?_
  refine At.seq ?_
  refine At.plain [(false, 0), (false, 1), (false, 2), (false, 3), (false, 4), (false, 5), (false, 6), (false, 7), (false, 8), (false, 9), (false, 10), (false, 11)] rfl ?_
  refine At.e rfl rfl rfl rfl .all (R.move (.t rfl)) ?_
  first | refine At.e rfl rfl rfl rfl .all (R.as (R.geq (.t rfl) .c) (fun _ => congrArg Value.bool (decide_eq_true (by omega)))) ?_ | refine At.e rfl rfl rfl rfl .all (R.as (R.geq (.t rfl) .c) (fun _ => congrArg Value.bool (decide_eq_false (by omega)))) ?_ | refine At.e rfl rfl rfl rfl .all (R.geq (.t rfl) .c) ?_
  refine At.e rfl rfl rfl rfl .all (R.move (.t rfl)) ?_
  first | refine At.eF rfl rfl rfl rfl .all ?_ | refine At.e rfl rfl rfl rfl .all (R.move (by first | exact .t rfl | exact .s rfl | exact .i rfl (by simp_all))) ?_
  first | refine At.eF rfl rfl rfl rfl .all ?_ | refine At.e rfl rfl rfl rfl .all (R.move (by first | exact .t rfl | exact .s rfl | exact .i rfl (by simp_all))) ?_
  first | refine At.eF rfl rfl rfl rfl .all ?_ | refine At.e rfl rfl rfl rfl .all (R.nilCheckP (by first | exact .t rfl | exact .s rfl | exact .i rfl (by simp_all))) ?_
  first | refine At.eF rfl rfl rfl rfl .all ?_ | refine At.e rfl rfl rfl rfl .all (R.fieldAddr fo_62_0 (by first | exact .t rfl | exact .s rfl | exact .i rfl (by simp_all))) ?_ | refine At.e rfl rfl rfl rfl .all (R.fieldRd fo_62_0 (by first | exact .t rfl | exact .s rfl | exact .i rfl (by simp_all)) (by (first | exact rS M0 | exact wS M0 | exact rS M1 | exact wS M1 | exact rS M2 | exact wS M2 | exact rS M3 | exact wS M3 | exact rS M4 | exact wS M4 | exact rS M5 | exact wS M5 | exact rS M6 | exact wS M6 | exact rS M7 | exact wS M7 | exact rS M8 | exact wS M8 | exact rS M9 | exact wS M9 | exact RdIn.nil | exact (fun w hw => hrK w (Cl.kept (by (first | exact fun _ h => h | exact keepOf (by (((repeat (first | exact List.Sublist.refl _ | exact List.nil_sublist _ | apply List.Sublist.cons_cons | apply List.Sublist.cons | exact List.sublist_append_right _ _ | exact List.sublist_append_left _ _ | apply List.Sublist.append_left | apply List.sublist_append_of_sublist_right)) <;> fail))))) w hw)))) (fun hg => (by first | omega | ((simp [-List.length_eq_zero_iff] at hg; omega)) | (simp only [List.length_append, List.length_cons, List.length_nil, List.length_take, List.length_drop]; omega)))) ?_
  first | refine At.eF rfl rfl rfl rfl .all ?_ | refine At.e rfl rfl rfl rfl .all (R.load Try.underlying57 rfl (by first | exact .t rfl | exact .s rfl | exact .i rfl (by simp_all)) (by first | exact cS M0 rfl | exact cS M1 rfl | exact cS M2 rfl | exact cS M3 rfl | exact cS M4 rfl | exact cS M5 rfl | exact cS M6 rfl | exact cS M7 rfl)) ?_
  first | refine At.eF rfl rfl rfl rfl .all ?_ | refine At.e rfl rfl rfl rfl .all (R.lenRd Try.underlying57 (by first | exact .t rfl | exact .s rfl | exact .i rfl (by simp_all)) (by (first | exact rS M0 | exact wS M0 | exact rS M1 | exact wS M1 | exact rS M2 | exact wS M2 | exact rS M3 | exact wS M3 | exact rS M4 | exact wS M4 | exact rS M5 | exact wS M5 | exact rS M6 | exact wS M6 | exact rS M7 | exact wS M7 | exact rS M8 | exact wS M8 | exact rS M9 | exact wS M9 | exact RdIn.nil | exact (fun w hw => hrK w (Cl.kept (by (first | exact fun _ h => h | exact keepOf (by (((repeat (first | exact List.Sublist.refl _ | exact List.nil_sublist _ | apply List.Sublist.cons_cons | apply List.Sublist.cons | exact List.sublist_append_right _ _ | exact List.sublist_append_left _ _ | apply List.Sublist.append_left | apply List.sublist_append_of_sublist_right)) <;> fail))))) w hw))))) ?_ | refine At.e rfl rfl rfl rfl .all (R.lenSl Try.underlying57 (by first | exact .t rfl | exact .s rfl | exact .i rfl (by simp_all))) ?_
  first | refine At.eF rfl rfl rfl rfl .all ?_ | refine At.e rfl rfl rfl rfl .all (R.lss (by first | exact .t rfl | exact .s rfl | exact .i rfl (by simp_all)) (by first | exact .t rfl | exact .s rfl | exact .i rfl (by simp_all))) ?_
  first | refine At.e rfl rfl rfl rfl .all (R.pickT (.t rfl) (.t rfl)) ?_ | refine At.e rfl rfl rfl rfl .all (R.pickF (.t rfl) .c) ?_ | refine At.e rfl rfl rfl rfl .all (R.pickAnd (.t rfl) rfl (by first | (intro hg h; rw [h]; rfl) | (intro hg h; rw [hg, h]; rfl) | (simp_all; done) | (simp_all; omega))) ?_
  refine At.e rfl rfl rfl rfl .all (R.assign (.t rfl)) ?_
  refine At.nil ?_
  refine At.tN ?_
  refine At.ret ?_
  exact At.final rfl (.t rfl) (List.nil_sublist _) (⟨congrArg Value.bool (by unfold Ar.hit; rw [hn]), rfl, rfl⟩)

theorem a_Peek {b n : Nat} {wv : Value} {a : Ar} (hn : a.w.length = n) (hN : n ≤ 1000000) {i : Int} : Fn Try.prog 15 [.pointer (some ⟨b, 0, none⟩), .int .i64 i] ([arB b wv a, arR wv n a]) ([]) (IsV (.int .i64 (a.peek i))) := by
  refine Fn.enter Try.func15 (by kernel_rfl) rfl (n := 16) rfl rfl (fun w => ?_)
  refine At.seq ?_
  refine At.plain [(false, 0)] rfl ?_
  refine At.e rfl rfl rfl rfl .all (R.assign .c) ?_
  refine At.nil ?_
  refine At.tN ?_
  refine At.seq ?_
  refine At.seq ?_
  refine At.plain [(false, 0), (false, 1), (false, 2), (false, 3)] rfl ?_
  refine At.e rfl rfl rfl rfl .all (R.move (.t rfl)) ?_
  refine At.e rfl rfl rfl rfl .all (R.move (.t rfl)) ?_
  refine At.callVR rfl rfl rfl (.cons (.t rfl) (.cons (.t rfl) .nil)) (.blk (.st M0) (.cons (by (first | exact rS M0 | exact wS M0 | exact rS M1 | exact wS M1 | exact rS M2 | exact wS M2 | exact rS M3 | exact wS M3 | exact rS M4 | exact wS M4 | exact rS M5 | exact wS M5 | exact rS M6 | exact wS M6 | exact rS M7 | exact wS M7 | exact rS M8 | exact wS M8 | exact rS M9 | exact wS M9 | exact RdIn.nil | exact (fun w hw => hrK w (Cl.kept (by (first | exact fun _ h => h | exact keepOf (by (((repeat (first | exact List.Sublist.refl _ | exact List.nil_sublist _ | apply List.Sublist.cons_cons | apply List.Sublist.cons | exact List.sublist_append_right _ _ | exact List.sublist_append_left _ _ | apply List.Sublist.append_left | apply List.sublist_append_of_sublist_right)) <;> fail))))) w hw)))) .nil)) (fun hg => a_is hn hN (a := a)) .all ?_
  refine At.e rfl rfl rfl rfl .all (R.not (.t rfl)) ?_
  refine At.nil ?_
  refine At.tN ?_
  first | refine At.condD (.t rfl) (fun c1 => ?_) (fun c1 => ?_) | refine At.condN (.t rfl) (fun c1 => ?_) (fun c1 => ?_) | refine At.cond (.t rfl) (fun c1 => ?_) (fun c1 => ?_)
  · skip
    refine At.seq ?_
    refine At.plain [(false, 0)] rfl ?_
    refine At.e rfl rfl rfl rfl .all (R.assign .c) ?_
    refine At.nil ?_
    refine At.tN ?_
    refine At.ret ?_
    refine At.tR ?_
    exact At.final rfl (.t rfl) (List.nil_sublist _) (⟨congrArg (Value.int .i64) (by unfold Ar.peek; first | (rw [if_pos (by simpa using c1)]) | (rw [if_neg (by simpa using c1)])), rfl, rfl⟩)
  · have hh := Ar.hit_yes (by simpa using c1)
    refine At.skip ?_
    refine At.tN ?_
    refine At.seq ?_
    refine At.plain [(false, 0), (false, 1), (false, 2), (false, 3), (false, 4), (false, 5), (false, 6), (false, 7)] rfl ?_
    refine At.e rfl rfl rfl rfl .all (R.move (.t rfl)) ?_
    refine At.e rfl rfl rfl rfl .all (R.nilCheckP (.t rfl)) ?_
    first | refine At.e rfl rfl rfl rfl .all (R.fieldAddr fo_62_0 (.t rfl)) ?_ | refine At.e rfl rfl rfl rfl .all (R.fieldRd fo_62_0 (.t rfl) (by (first | exact rS M0 | exact wS M0 | exact rS M1 | exact wS M1 | exact rS M2 | exact wS M2 | exact rS M3 | exact wS M3 | exact rS M4 | exact wS M4 | exact rS M5 | exact wS M5 | exact rS M6 | exact wS M6 | exact rS M7 | exact wS M7 | exact rS M8 | exact wS M8 | exact rS M9 | exact wS M9 | exact RdIn.nil | exact (fun w hw => hrK w (Cl.kept (by (first | exact fun _ h => h | exact keepOf (by (((repeat (first | exact List.Sublist.refl _ | exact List.nil_sublist _ | apply List.Sublist.cons_cons | apply List.Sublist.cons | exact List.sublist_append_right _ _ | exact List.sublist_append_left _ _ | apply List.Sublist.append_left | apply List.sublist_append_of_sublist_right)) <;> fail))))) w hw)))) (fun hg => (by first | omega | ((simp [-List.length_eq_zero_iff] at hg; omega)) | (simp only [List.length_append, List.length_cons, List.length_nil, List.length_take, List.length_drop]; omega)))) ?_
    refine At.e rfl rfl rfl rfl .all (R.load Try.underlying57 rfl (.t rfl) (by first | exact cS M0 rfl | exact cS M1 rfl | exact cS M2 rfl | exact cS M3 rfl | exact cS M4 rfl | exact cS M5 rfl | exact cS M6 rfl | exact cS M7 rfl)) ?_
    refine At.e rfl rfl rfl rfl .all (R.move (.t rfl)) ?_
    first | refine At.e rfl rfl rfl rfl .all (R.indexRd Try.underlying57 sz_3 (.t rfl) (by (first | exact rS M0 | exact wS M0 | exact rS M1 | exact wS M1 | exact rS M2 | exact wS M2 | exact rS M3 | exact wS M3 | exact rS M4 | exact wS M4 | exact rS M5 | exact wS M5 | exact rS M6 | exact wS M6 | exact rS M7 | exact wS M7 | exact rS M8 | exact wS M8 | exact rS M9 | exact wS M9 | exact RdIn.nil | exact (fun w hw => hrK w (Cl.kept (by (first | exact fun _ h => h | exact keepOf (by (((repeat (first | exact List.Sublist.refl _ | exact List.nil_sublist _ | apply List.Sublist.cons_cons | apply List.Sublist.cons | exact List.sublist_append_right _ _ | exact List.sublist_append_left _ _ | apply List.Sublist.append_left | apply List.sublist_append_of_sublist_right)) <;> fail))))) w hw)))) (.t rfl) (fun hg => (by first | omega | ((simp [-List.length_eq_zero_iff] at hg; omega)) | (simp only [List.length_append, List.length_cons, List.length_nil, List.length_take, List.length_drop]; omega)))) ?_ | refine At.e rfl rfl rfl rfl .all (R.indexSlE Try.underlying57 sz_3 (.t rfl) (.t rfl) (fun hg => by first | omega | (simp [-List.length_eq_zero_iff] at hg; omega))) ?_
    first | refine At.e rfl rfl rfl rfl .all (R.loadRd Try.underlying3 rfl (.t rfl) (by (first | exact rS M0 | exact wS M0 | exact rS M1 | exact wS M1 | exact rS M2 | exact wS M2 | exact rS M3 | exact wS M3 | exact rS M4 | exact wS M4 | exact rS M5 | exact wS M5 | exact rS M6 | exact wS M6 | exact rS M7 | exact wS M7 | exact rS M8 | exact wS M8 | exact rS M9 | exact wS M9 | exact RdIn.nil | exact (fun w hw => hrK w (Cl.kept (by (first | exact fun _ h => h | exact keepOf (by (((repeat (first | exact List.Sublist.refl _ | exact List.nil_sublist _ | apply List.Sublist.cons_cons | apply List.Sublist.cons | exact List.sublist_append_right _ _ | exact List.sublist_append_left _ _ | apply List.Sublist.append_left | apply List.sublist_append_of_sublist_right)) <;> fail))))) w hw)))) (fun hg => by exact Ek.getN rfl (by first | omega | ((simp [-List.length_eq_zero_iff] at hg; omega)) | (simp only [List.length_append, List.length_cons, List.length_nil, List.length_take, List.length_drop]; omega)))) ?_ | refine At.e rfl rfl rfl rfl .all (R.loadRd Try.underlying3 rfl (.t rfl) (by (first | exact rS M0 | exact wS M0 | exact rS M1 | exact wS M1 | exact rS M2 | exact wS M2 | exact rS M3 | exact wS M3 | exact rS M4 | exact wS M4 | exact rS M5 | exact wS M5 | exact rS M6 | exact wS M6 | exact rS M7 | exact wS M7 | exact rS M8 | exact wS M8 | exact rS M9 | exact wS M9 | exact RdIn.nil | exact (fun w hw => hrK w (Cl.kept (by (first | exact fun _ h => h | exact keepOf (by (((repeat (first | exact List.Sublist.refl _ | exact List.nil_sublist _ | apply List.Sublist.cons_cons | apply List.Sublist.cons | exact List.sublist_append_right _ _ | exact List.sublist_append_left _ _ | apply List.Sublist.append_left | apply List.sublist_append_of_sublist_right)) <;> fail))))) w hw)))) (fun hg => by exact Ek.get0 rfl (by first | omega | ((simp [-List.length_eq_zero_iff] at hg; omega)) | (simp only [List.length_append, List.length_cons, List.length_nil, List.length_take, List.length_drop]; omega)))) ?_
    refine At.e rfl rfl rfl rfl .all (R.assign (.t rfl)) ?_
    refine At.nil ?_
    refine At.tN ?_
    refine At.ret ?_
    exact At.final rfl (.t rfl) (List.nil_sublist _) (⟨congrArg (Value.int .i64) (by unfold Ar.peek; first | (rw [if_pos (by simpa using c1)]) | (rw [if_neg (by simpa using c1)])), rfl, rfl⟩)

theorem a_Len {b n : Nat} {wv : Value} {a : Ar} (hn : a.w.length = n) (hN : n ≤ 1000000) : Fn Try.prog 14 [.pointer (some ⟨b, 0, none⟩)] ([arB b wv a, arR wv n a]) ([]) (IsV (.int .i64 (n : Int))) := by
  refine Fn.enter Try.func14 (by kernel_rfl) rfl (n := 8) rfl rfl (fun w => ?_)
  refine At.seq ?_
  refine At.plain [(false, 0)] rfl ?_
  refine At.e rfl rfl rfl rfl .all (R.assign .c) ?_
  refine At.nil ?_
  refine At.tN ?_
  refine At.seq ?_
  refine At.plain [(false, 0), (false, 1), (false, 2), (false, 3), (false, 4), (false, 5)] rfl ?_
  refine At.e rfl rfl rfl rfl .all (R.move (.t rfl)) ?_
  refine At.e rfl rfl rfl rfl .all (R.nilCheckP (.t rfl)) ?_
  first | refine At.e rfl rfl rfl rfl .all (R.fieldAddr fo_62_0 (.t rfl)) ?_ | refine At.e rfl rfl rfl rfl .all (R.fieldRd fo_62_0 (.t rfl) (by (first | exact rS M0 | exact wS M0 | exact rS M1 | exact wS M1 | exact rS M2 | exact wS M2 | exact rS M3 | exact wS M3 | exact rS M4 | exact wS M4 | exact rS M5 | exact wS M5 | exact rS M6 | exact wS M6 | exact rS M7 | exact wS M7 | exact rS M8 | exact wS M8 | exact rS M9 | exact wS M9 | exact RdIn.nil | exact (fun w hw => hrK w (Cl.kept (by (first | exact fun _ h => h | exact keepOf (by (((repeat (first | exact List.Sublist.refl _ | exact List.nil_sublist _ | apply List.Sublist.cons_cons | apply List.Sublist.cons | exact List.sublist_append_right _ _ | exact List.sublist_append_left _ _ | apply List.Sublist.append_left | apply List.sublist_append_of_sublist_right)) <;> fail))))) w hw)))) (fun hg => (by first | omega | ((simp [-List.length_eq_zero_iff] at hg; omega)) | (simp only [List.length_append, List.length_cons, List.length_nil, List.length_take, List.length_drop]; omega)))) ?_
  refine At.e rfl rfl rfl rfl .all (R.load Try.underlying57 rfl (.t rfl) (by first | exact cS M0 rfl | exact cS M1 rfl | exact cS M2 rfl | exact cS M3 rfl | exact cS M4 rfl | exact cS M5 rfl | exact cS M6 rfl | exact cS M7 rfl)) ?_
  first | refine At.e rfl rfl rfl rfl .all (R.lenRd Try.underlying57 (.t rfl) (by (first | exact rS M0 | exact wS M0 | exact rS M1 | exact wS M1 | exact rS M2 | exact wS M2 | exact rS M3 | exact wS M3 | exact rS M4 | exact wS M4 | exact rS M5 | exact wS M5 | exact rS M6 | exact wS M6 | exact rS M7 | exact wS M7 | exact rS M8 | exact wS M8 | exact rS M9 | exact wS M9 | exact RdIn.nil | exact (fun w hw => hrK w (Cl.kept (by (first | exact fun _ h => h | exact keepOf (by (((repeat (first | exact List.Sublist.refl _ | exact List.nil_sublist _ | apply List.Sublist.cons_cons | apply List.Sublist.cons | exact List.sublist_append_right _ _ | exact List.sublist_append_left _ _ | apply List.Sublist.append_left | apply List.sublist_append_of_sublist_right)) <;> fail))))) w hw))))) ?_ | refine At.e rfl rfl rfl rfl .all (R.lenSl Try.underlying57 (.t rfl)) ?_
  refine At.e rfl rfl rfl rfl .all (R.assign (.t rfl)) ?_
  refine At.nil ?_
  refine At.tN ?_
  refine At.ret ?_
  exact At.final rfl (.t rfl) (List.nil_sublist _) (⟨rfl, rfl, rfl⟩)

theorem a_Poke {b n : Nat} {wv : Value} {a : Ar} (hn : a.w.length = n) (hN : n ≤ 1000000) {i x : Int} : Fn Try.prog 9 [.pointer (some ⟨b, 0, none⟩), .int .i64 i, .int .i64 x] ([]) ([arB b wv a, arW wv n a]) (IsM (.tuple #[]) [arB b wv (a.poke i x), arW wv n (a.poke i x)]) := by
  refine Fn.enter Try.func9 (by kernel_rfl) rfl (n := 16) rfl rfl (fun w => ?_)
  refine At.seq ?_
  refine At.plain [(false, 0), (false, 1), (false, 2)] rfl ?_
  refine At.e rfl rfl rfl rfl .all (R.move (.t rfl)) ?_
  refine At.e rfl rfl rfl rfl .all (R.move (.t rfl)) ?_
  refine At.callVR rfl rfl rfl (.cons (.t rfl) (.cons (.t rfl) .nil)) (.blk (.st M0) (.cons (by (first | exact rS M0 | exact wS M0 | exact rS M1 | exact wS M1 | exact rS M2 | exact wS M2 | exact rS M3 | exact wS M3 | exact rS M4 | exact wS M4 | exact rS M5 | exact wS M5 | exact rS M6 | exact wS M6 | exact rS M7 | exact wS M7 | exact rS M8 | exact wS M8 | exact rS M9 | exact wS M9 | exact RdIn.nil | exact (fun w hw => hrK w (Cl.kept (by (first | exact fun _ h => h | exact keepOf (by (((repeat (first | exact List.Sublist.refl _ | exact List.nil_sublist _ | apply List.Sublist.cons_cons | apply List.Sublist.cons | exact List.sublist_append_right _ _ | exact List.sublist_append_left _ _ | apply List.Sublist.append_left | apply List.sublist_append_of_sublist_right)) <;> fail))))) w hw)))) .nil)) (fun hg => a_is hn hN (a := a)) .all ?_
  refine At.nil ?_
  refine At.tN ?_
  first | refine At.condD (.t rfl) (fun c1 => ?_) (fun c1 => ?_) | refine At.condN (.t rfl) (fun c1 => ?_) (fun c1 => ?_) | refine At.cond (.t rfl) (fun c1 => ?_) (fun c1 => ?_)
  · have hh := Ar.hit_yes (by simpa using c1); refine At.rowForm (v := wv) (by (first | exact M0 | exact M1 | exact M2 | exact M3 | exact M4 | exact M5 | exact M6 | exact List.mem_append_right _ M0 | exact List.mem_append_right _ M1 | exact List.mem_append_right _ M2 | exact List.mem_append_right _ M3 | exact List.mem_append_right _ M4 | exact List.mem_append_right _ M5 | exact List.mem_append_right _ M6)) (by omega) (fun g cap hv => ?_); subst hv
    refine At.plain [(false, 0), (false, 1), (false, 2), (false, 3), (false, 4), (false, 5), (false, 6), (false, 7)] rfl ?_
    refine At.e rfl rfl rfl rfl .all (R.move (.t rfl)) ?_
    refine At.e rfl rfl rfl rfl .all (R.nilCheckP (.t rfl)) ?_
    first | refine At.e rfl rfl rfl rfl .all (R.fieldAddr fo_62_0 (.t rfl)) ?_ | refine At.e rfl rfl rfl rfl .all (R.fieldRd fo_62_0 (.t rfl) (by (first | exact rS M0 | exact wS M0 | exact rS M1 | exact wS M1 | exact rS M2 | exact wS M2 | exact rS M3 | exact wS M3 | exact rS M4 | exact wS M4 | exact rS M5 | exact wS M5 | exact rS M6 | exact wS M6 | exact rS M7 | exact wS M7 | exact rS M8 | exact wS M8 | exact rS M9 | exact wS M9 | exact RdIn.nil | exact (fun w hw => hrK w (Cl.kept (by (first | exact fun _ h => h | exact keepOf (by (((repeat (first | exact List.Sublist.refl _ | exact List.nil_sublist _ | apply List.Sublist.cons_cons | apply List.Sublist.cons | exact List.sublist_append_right _ _ | exact List.sublist_append_left _ _ | apply List.Sublist.append_left | apply List.sublist_append_of_sublist_right)) <;> fail))))) w hw)))) (fun hg => (by first | omega | ((simp [-List.length_eq_zero_iff] at hg; omega)) | (simp only [List.length_append, List.length_cons, List.length_nil, List.length_take, List.length_drop]; omega)))) ?_
    refine At.e rfl rfl rfl rfl .all (R.load Try.underlying57 rfl (.t rfl) (by first | exact cS M0 rfl | exact cS M1 rfl | exact cS M2 rfl | exact cS M3 rfl | exact cS M4 rfl | exact cS M5 rfl | exact cS M6 rfl | exact cS M7 rfl)) ?_
    refine At.e rfl rfl rfl rfl .all (R.move (.t rfl)) ?_
    refine At.e rfl rfl rfl rfl .all (R.move (.t rfl)) ?_
    first | refine At.e rfl rfl rfl rfl .all (R.indexRd Try.underlying57 sz_3 (.t rfl) (by (first | exact rS M0 | exact wS M0 | exact rS M1 | exact wS M1 | exact rS M2 | exact wS M2 | exact rS M3 | exact wS M3 | exact rS M4 | exact wS M4 | exact rS M5 | exact wS M5 | exact rS M6 | exact wS M6 | exact rS M7 | exact wS M7 | exact rS M8 | exact wS M8 | exact rS M9 | exact wS M9 | exact RdIn.nil | exact (fun w hw => hrK w (Cl.kept (by (first | exact fun _ h => h | exact keepOf (by (((repeat (first | exact List.Sublist.refl _ | exact List.nil_sublist _ | apply List.Sublist.cons_cons | apply List.Sublist.cons | exact List.sublist_append_right _ _ | exact List.sublist_append_left _ _ | apply List.Sublist.append_left | apply List.sublist_append_of_sublist_right)) <;> fail))))) w hw)))) (.t rfl) (fun hg => (by first | omega | ((simp [-List.length_eq_zero_iff] at hg; omega)) | (simp only [List.length_append, List.length_cons, List.length_nil, List.length_take, List.length_drop]; omega)))) ?_ | refine At.e rfl rfl rfl rfl .all (R.indexSlE Try.underlying57 sz_3 (.t rfl) (.t rfl) (fun hg => by first | omega | (simp [-List.length_eq_zero_iff] at hg; omega))) ?_
    first | refine At.stRow (k := zK) rfl rfl sz_3 (.t rfl) (.t rfl) rfl (.n U0) (by first | omega | (simp only [List.length_set]; omega)) (by first | omega | (simp only [List.length_append, List.length_cons, List.length_nil, List.length_take, List.length_drop]; omega)) ⟨.all, ?_⟩ | refine At.stRow (k := zK) rfl rfl sz_3 (.t rfl) (.t rfl) rfl (.n U1) (by first | omega | (simp only [List.length_set]; omega)) (by first | omega | (simp only [List.length_append, List.length_cons, List.length_nil, List.length_take, List.length_drop]; omega)) ⟨.all, ?_⟩ | refine At.stRow (k := zK) rfl rfl sz_3 (.t rfl) (.t rfl) rfl (.n U2) (by first | omega | (simp only [List.length_set]; omega)) (by first | omega | (simp only [List.length_append, List.length_cons, List.length_nil, List.length_take, List.length_drop]; omega)) ⟨.all, ?_⟩ | refine At.stRow (k := zK) rfl rfl sz_3 (.t rfl) (.t rfl) rfl (.n U3) (by first | omega | (simp only [List.length_set]; omega)) (by first | omega | (simp only [List.length_append, List.length_cons, List.length_nil, List.length_take, List.length_drop]; omega)) ⟨.all, ?_⟩ | refine At.stRow (k := zK) rfl rfl sz_3 (.t rfl) (.t rfl) rfl (.n U4) (by first | omega | (simp only [List.length_set]; omega)) (by first | omega | (simp only [List.length_append, List.length_cons, List.length_nil, List.length_take, List.length_drop]; omega)) ⟨.all, ?_⟩ | refine At.stRow (k := zK) rfl rfl sz_3 (.t rfl) (.t rfl) rfl (.n U5) (by first | omega | (simp only [List.length_set]; omega)) (by first | omega | (simp only [List.length_append, List.length_cons, List.length_nil, List.length_take, List.length_drop]; omega)) ⟨.all, ?_⟩ | refine At.stRow (k := zK) rfl rfl sz_3 (.t rfl) (.t rfl) rfl (.n U6) (by first | omega | (simp only [List.length_set]; omega)) (by first | omega | (simp only [List.length_append, List.length_cons, List.length_nil, List.length_take, List.length_drop]; omega)) ⟨.all, ?_⟩ | refine At.stRow (k := zK) rfl rfl sz_3 (.t rfl) (.t rfl) rfl (.n U7) (by first | omega | (simp only [List.length_set]; omega)) (by first | omega | (simp only [List.length_append, List.length_cons, List.length_nil, List.length_take, List.length_drop]; omega)) ⟨.all, ?_⟩ | refine At.stRow (k := zK) rfl rfl sz_3 (.t rfl) (.t rfl) rfl (.h U0) (by first | omega | (simp only [List.length_set]; omega)) (by first | omega | (simp only [List.length_append, List.length_cons, List.length_nil, List.length_take, List.length_drop]; omega)) ⟨.all, ?_⟩ | refine At.stRow (k := zK) rfl rfl sz_3 (.t rfl) (.t rfl) rfl (.h U1) (by first | omega | (simp only [List.length_set]; omega)) (by first | omega | (simp only [List.length_append, List.length_cons, List.length_nil, List.length_take, List.length_drop]; omega)) ⟨.all, ?_⟩ | refine At.stRow (k := zK) rfl rfl sz_3 (.t rfl) (.t rfl) rfl (.h U2) (by first | omega | (simp only [List.length_set]; omega)) (by first | omega | (simp only [List.length_append, List.length_cons, List.length_nil, List.length_take, List.length_drop]; omega)) ⟨.all, ?_⟩ | refine At.stRow (k := zK) rfl rfl sz_3 (.t rfl) (.t rfl) rfl (.h U3) (by first | omega | (simp only [List.length_set]; omega)) (by first | omega | (simp only [List.length_append, List.length_cons, List.length_nil, List.length_take, List.length_drop]; omega)) ⟨.all, ?_⟩
    refine At.nil ?_
    exact At.final0 rfl (List.nil_sublist _) (⟨rfl, rfl, by unfold Ar.poke; first | (rw [if_pos (by simpa using c1)]) | (rw [if_neg (by simpa using c1)])⟩) _ (.inr rfl)
  · skip
    refine At.skip ?_
    exact At.final0 rfl (List.nil_sublist _) (⟨rfl, rfl, by unfold Ar.poke; first | (rw [if_pos (by simpa using c1)]) | (rw [if_neg (by simpa using c1)])⟩) _ (.inr rfl)

theorem a_notes1 {b : Nat} {wv : Value} {a : Ar} (hf : a.few) {i old nw : Int} {ok : Bool} : Fn Try.prog 60 [.pointer (some ⟨b, 0, none⟩), .agg #[.int .i64 1, .int .i64 i, .int .i64 old, .int .i64 nw, .bool ok]] ([]) ([arB b wv a]) (IsM (.tuple #[]) [arB b wv (a.note 1 i old nw ok)]) := by
  refine Fn.enter Try.func60 (by kernel_rfl) rfl (n := 19) rfl rfl (fun w => ?_)
  obtain ⟨hf0, hf1, hf2, hf3, hf4⟩ := hf
  refine At.seq ?_
  refine At.plain [(false, 0)] rfl ?_
  refine At.box rfl rfl rfl (.t rfl) (fun b1 hb1 => ⟨.all, ?_⟩)
  refine At.nil ?_
  refine At.tN ?_
  refine At.seq ?_
  refine At.drawL ([]) [(true, 0), (true, 1), (true, 3), (true, 4), (true, 8), (true, 9)] [(true, 2), (true, 5), (true, 6), (true, 7), (true, 10)] [(false, 11)] (fun _ h => nomatch h) (by kernel_rfl) (by kernel_rfl) ?_
  refine At.s rfl rfl rfl rfl Cl.none (R.move (.t rfl)) ?_
  first | refine At.s rfl rfl rfl rfl Cl.none (R.fieldAddr fo_60_0 (.t rfl)) ?_ | refine At.s rfl rfl rfl rfl Cl.none (R.fieldRd fo_60_0 (.t rfl) (by (first | exact rK M0 | exact wK M0 | exact rK M1 | exact wK M1 | exact rK M2 | exact wK M2 | exact rK M3 | exact wK M3 | exact rK M4 | exact wK M4 | exact rK M5 | exact wK M5 | exact rK M6 | exact wK M6 | exact rK M7 | exact wK M7 | exact rK M8 | exact wK M8 | exact rK M9 | exact wK M9 | exact RdIn.nil | exact hrK)) (fun hg => (by first | omega | ((simp [-List.length_eq_zero_iff] at hg; omega)) | (simp only [List.length_append, List.length_cons, List.length_nil, List.length_take, List.length_drop]; omega)))) ?_
  refine At.s rfl rfl rfl rfl Cl.none (R.nilCheckP (.t rfl)) ?_
  first | refine At.s rfl rfl rfl rfl Cl.none (R.fieldAddr fo_62_1 (.t rfl)) ?_ | refine At.s rfl rfl rfl rfl Cl.none (R.fieldRd fo_62_1 (.t rfl) (by (first | exact rK M0 | exact wK M0 | exact rK M1 | exact wK M1 | exact rK M2 | exact wK M2 | exact rK M3 | exact wK M3 | exact rK M4 | exact wK M4 | exact rK M5 | exact wK M5 | exact rK M6 | exact wK M6 | exact rK M7 | exact wK M7 | exact rK M8 | exact wK M8 | exact rK M9 | exact wK M9 | exact RdIn.nil | exact hrK)) (fun hg => (by first | omega | ((simp [-List.length_eq_zero_iff] at hg; omega)) | (simp only [List.length_append, List.length_cons, List.length_nil, List.length_take, List.length_drop]; omega)))) ?_
  refine At.s rfl rfl rfl rfl Cl.none (R.nilCheckP (.t rfl)) ?_
  first | refine At.s rfl rfl rfl rfl Cl.none (R.fieldAddr fo_62_1 (.t rfl)) ?_ | refine At.s rfl rfl rfl rfl Cl.none (R.fieldRd fo_62_1 (.t rfl) (by (first | exact rK M0 | exact wK M0 | exact rK M1 | exact wK M1 | exact rK M2 | exact wK M2 | exact rK M3 | exact wK M3 | exact rK M4 | exact wK M4 | exact rK M5 | exact wK M5 | exact rK M6 | exact wK M6 | exact rK M7 | exact wK M7 | exact rK M8 | exact wK M8 | exact rK M9 | exact wK M9 | exact RdIn.nil | exact hrK)) (fun hg => (by first | omega | ((simp [-List.length_eq_zero_iff] at hg; omega)) | (simp only [List.length_append, List.length_cons, List.length_nil, List.length_take, List.length_drop]; omega)))) ?_
  refine At.stage (Cl.kept fun _ h => h) ?_
  refine At.s rfl rfl rfl rfl (Cl.kept fun _ h => h) (R.load Try.underlying3 rfl (.t rfl) (by first | exact cK M0 rfl | exact cK M1 rfl | exact cK M2 rfl | exact cK M3 rfl | exact cK M4 rfl | exact cK M5 rfl | exact cK M6 rfl | exact cK M7 rfl)) ?_
  refine At.s rfl rfl rfl rfl (Cl.kept fun _ h => h) (R.indexArr Try.underlying58 sz_3 (.t rfl) (.t rfl) (fun hg => by first | omega | (simp [-List.length_eq_zero_iff] at hg; omega))) ?_
  refine At.s rfl rfl rfl rfl (Cl.kept fun _ h => h) (R.load Try.underlying3 rfl (.t rfl) (by first | exact cK M0 rfl | exact cK M1 rfl | exact cK M2 rfl | exact cK M3 rfl | exact cK M4 rfl | exact cK M5 rfl | exact cK M6 rfl | exact cK M7 rfl)) ?_
  first | refine At.s rfl rfl rfl rfl (Cl.kept fun _ h => h) (R.addI (.t rfl) .c (fun hg => by first | omega | (simp [-List.length_eq_zero_iff] at hg; omega))) ?_ | refine At.s rfl rfl rfl rfl (Cl.kept fun _ h => h) (R.add (.t rfl) .c) ?_
  refine At.s rfl rfl rfl rfl (Cl.kept fun _ h => h) (R.indexArr Try.underlying58 sz_3 (.t rfl) (.t rfl) (fun hg => by first | omega | (simp [-List.length_eq_zero_iff] at hg; omega))) ?_
  refine At.stage Cl.none ?_
  first | refine At.st1 rfl rfl sz_3 (.t rfl) (.t rfl) rfl rfl (.n U0) ⟨Cl.none, ?_⟩ | refine At.st1 rfl rfl sz_3 (.t rfl) (.t rfl) rfl rfl (.n U1) ⟨Cl.none, ?_⟩ | refine At.st1 rfl rfl sz_3 (.t rfl) (.t rfl) rfl rfl (.n U2) ⟨Cl.none, ?_⟩ | refine At.st1 rfl rfl sz_3 (.t rfl) (.t rfl) rfl rfl (.n U3) ⟨Cl.none, ?_⟩ | refine At.st1 rfl rfl sz_3 (.t rfl) (.t rfl) rfl rfl (.n U4) ⟨Cl.none, ?_⟩ | refine At.st1 rfl rfl sz_3 (.t rfl) (.t rfl) rfl rfl (.n U5) ⟨Cl.none, ?_⟩ | refine At.st1 rfl rfl sz_3 (.t rfl) (.t rfl) rfl rfl (.n U6) ⟨Cl.none, ?_⟩ | refine At.st1 rfl rfl sz_3 (.t rfl) (.t rfl) rfl rfl (.n U7) ⟨Cl.none, ?_⟩ | refine At.st1 rfl rfl sz_3 (.t rfl) (.t rfl) rfl rfl (.h U0) ⟨Cl.none, ?_⟩ | refine At.st1 rfl rfl sz_3 (.t rfl) (.t rfl) rfl rfl (.h U1) ⟨Cl.none, ?_⟩ | refine At.st1 rfl rfl sz_3 (.t rfl) (.t rfl) rfl rfl (.h U2) ⟨Cl.none, ?_⟩ | refine At.st1 rfl rfl sz_3 (.t rfl) (.t rfl) rfl rfl (.h U3) ⟨Cl.none, ?_⟩
  refine At.nil ?_
  refine At.tN ?_
  refine At.plain [(false, 0), (false, 1), (false, 2), (false, 3), (false, 4)] rfl ?_
  refine At.e rfl rfl rfl rfl .all (R.move (.t rfl)) ?_
  refine At.e rfl rfl rfl rfl .all (R.loadAgg (vs := [_, _, _, _, _]) Try.underlying60 rfl sz_60 (.t rfl) (by first | exact csS M0 ⟨rfl, rfl, rfl, rfl, rfl, trivial⟩ | exact csS M1 ⟨rfl, rfl, rfl, rfl, rfl, trivial⟩ | exact csS M2 ⟨rfl, rfl, rfl, rfl, rfl, trivial⟩ | exact csS M3 ⟨rfl, rfl, rfl, rfl, rfl, trivial⟩ | exact csS M4 ⟨rfl, rfl, rfl, rfl, rfl, trivial⟩ | exact csS M5 ⟨rfl, rfl, rfl, rfl, rfl, trivial⟩ | exact csS M6 ⟨rfl, rfl, rfl, rfl, rfl, trivial⟩ | exact csS M7 ⟨rfl, rfl, rfl, rfl, rfl, trivial⟩)) ?_
  refine At.e rfl rfl rfl rfl .all (R.nilCheckP (.t rfl)) ?_
  first | refine At.e rfl rfl rfl rfl .all (R.fieldAddr fo_62_2 (.t rfl)) ?_ | refine At.e rfl rfl rfl rfl .all (R.fieldRd fo_62_2 (.t rfl) (by (first | exact rS M0 | exact wS M0 | exact rS M1 | exact wS M1 | exact rS M2 | exact wS M2 | exact rS M3 | exact wS M3 | exact rS M4 | exact wS M4 | exact rS M5 | exact wS M5 | exact rS M6 | exact wS M6 | exact rS M7 | exact wS M7 | exact rS M8 | exact wS M8 | exact rS M9 | exact wS M9 | exact RdIn.nil | exact (fun w hw => hrK w (Cl.kept (by (first | exact fun _ h => h | exact keepOf (by (((repeat (first | exact List.Sublist.refl _ | exact List.nil_sublist _ | apply List.Sublist.cons_cons | apply List.Sublist.cons | exact List.sublist_append_right _ _ | exact List.sublist_append_left _ _ | apply List.Sublist.append_left | apply List.sublist_append_of_sublist_right)) <;> fail))))) w hw)))) (fun hg => (by first | omega | ((simp [-List.length_eq_zero_iff] at hg; omega)) | (simp only [List.length_append, List.length_cons, List.length_nil, List.length_take, List.length_drop]; omega)))) ?_
  first | refine At.stN rfl rfl sz_60 (.t rfl) (.t rfl) rfl rfl rfl (.n U0) ⟨.all, ?_⟩ | refine At.stN rfl rfl sz_60 (.t rfl) (.t rfl) rfl rfl rfl (.n U1) ⟨.all, ?_⟩ | refine At.stN rfl rfl sz_60 (.t rfl) (.t rfl) rfl rfl rfl (.n U2) ⟨.all, ?_⟩ | refine At.stN rfl rfl sz_60 (.t rfl) (.t rfl) rfl rfl rfl (.n U3) ⟨.all, ?_⟩ | refine At.stN rfl rfl sz_60 (.t rfl) (.t rfl) rfl rfl rfl (.n U4) ⟨.all, ?_⟩ | refine At.stN rfl rfl sz_60 (.t rfl) (.t rfl) rfl rfl rfl (.n U5) ⟨.all, ?_⟩ | refine At.stN rfl rfl sz_60 (.t rfl) (.t rfl) rfl rfl rfl (.n U6) ⟨.all, ?_⟩ | refine At.stN rfl rfl sz_60 (.t rfl) (.t rfl) rfl rfl rfl (.n U7) ⟨.all, ?_⟩ | refine At.stN rfl rfl sz_60 (.t rfl) (.t rfl) rfl rfl rfl (.h U0) ⟨.all, ?_⟩ | refine At.stN rfl rfl sz_60 (.t rfl) (.t rfl) rfl rfl rfl (.h U1) ⟨.all, ?_⟩ | refine At.stN rfl rfl sz_60 (.t rfl) (.t rfl) rfl rfl rfl (.h U2) ⟨.all, ?_⟩ | refine At.stN rfl rfl sz_60 (.t rfl) (.t rfl) rfl rfl rfl (.h U3) ⟨.all, ?_⟩
  refine At.nil ?_
  exact At.final0 rfl (List.nil_sublist _) (⟨rfl, rfl, rfl⟩) _ (.inr rfl)

theorem a_notes2 {b : Nat} {wv : Value} {a : Ar} (hf : a.few) {i old nw : Int} {ok : Bool} : Fn Try.prog 60 [.pointer (some ⟨b, 0, none⟩), .agg #[.int .i64 2, .int .i64 i, .int .i64 old, .int .i64 nw, .bool ok]] ([]) ([arB b wv a]) (IsM (.tuple #[]) [arB b wv (a.note 2 i old nw ok)]) := by
  refine Fn.enter Try.func60 (by kernel_rfl) rfl (n := 19) rfl rfl (fun w => ?_)
  obtain ⟨hf0, hf1, hf2, hf3, hf4⟩ := hf
  refine At.seq ?_
  refine At.plain [(false, 0)] rfl ?_
  refine At.box rfl rfl rfl (.t rfl) (fun b1 hb1 => ⟨.all, ?_⟩)
  refine At.nil ?_
  refine At.tN ?_
  refine At.seq ?_
  refine At.drawL ([]) [(true, 0), (true, 1), (true, 3), (true, 4), (true, 8), (true, 9)] [(true, 2), (true, 5), (true, 6), (true, 7), (true, 10)] [(false, 11)] (fun _ h => nomatch h) (by kernel_rfl) (by kernel_rfl) ?_
  refine At.s rfl rfl rfl rfl Cl.none (R.move (.t rfl)) ?_
  first | refine At.s rfl rfl rfl rfl Cl.none (R.fieldAddr fo_60_0 (.t rfl)) ?_ | refine At.s rfl rfl rfl rfl Cl.none (R.fieldRd fo_60_0 (.t rfl) (by (first | exact rK M0 | exact wK M0 | exact rK M1 | exact wK M1 | exact rK M2 | exact wK M2 | exact rK M3 | exact wK M3 | exact rK M4 | exact wK M4 | exact rK M5 | exact wK M5 | exact rK M6 | exact wK M6 | exact rK M7 | exact wK M7 | exact rK M8 | exact wK M8 | exact rK M9 | exact wK M9 | exact RdIn.nil | exact hrK)) (fun hg => (by first | omega | ((simp [-List.length_eq_zero_iff] at hg; omega)) | (simp only [List.length_append, List.length_cons, List.length_nil, List.length_take, List.length_drop]; omega)))) ?_
  refine At.s rfl rfl rfl rfl Cl.none (R.nilCheckP (.t rfl)) ?_
  first | refine At.s rfl rfl rfl rfl Cl.none (R.fieldAddr fo_62_1 (.t rfl)) ?_ | refine At.s rfl rfl rfl rfl Cl.none (R.fieldRd fo_62_1 (.t rfl) (by (first | exact rK M0 | exact wK M0 | exact rK M1 | exact wK M1 | exact rK M2 | exact wK M2 | exact rK M3 | exact wK M3 | exact rK M4 | exact wK M4 | exact rK M5 | exact wK M5 | exact rK M6 | exact wK M6 | exact rK M7 | exact wK M7 | exact rK M8 | exact wK M8 | exact rK M9 | exact wK M9 | exact RdIn.nil | exact hrK)) (fun hg => (by first | omega | ((simp [-List.length_eq_zero_iff] at hg; omega)) | (simp only [List.length_append, List.length_cons, List.length_nil, List.length_take, List.length_drop]; omega)))) ?_
  refine At.s rfl rfl rfl rfl Cl.none (R.nilCheckP (.t rfl)) ?_
  first | refine At.s rfl rfl rfl rfl Cl.none (R.fieldAddr fo_62_1 (.t rfl)) ?_ | refine At.s rfl rfl rfl rfl Cl.none (R.fieldRd fo_62_1 (.t rfl) (by (first | exact rK M0 | exact wK M0 | exact rK M1 | exact wK M1 | exact rK M2 | exact wK M2 | exact rK M3 | exact wK M3 | exact rK M4 | exact wK M4 | exact rK M5 | exact wK M5 | exact rK M6 | exact wK M6 | exact rK M7 | exact wK M7 | exact rK M8 | exact wK M8 | exact rK M9 | exact wK M9 | exact RdIn.nil | exact hrK)) (fun hg => (by first | omega | ((simp [-List.length_eq_zero_iff] at hg; omega)) | (simp only [List.length_append, List.length_cons, List.length_nil, List.length_take, List.length_drop]; omega)))) ?_
  refine At.stage (Cl.kept fun _ h => h) ?_
  refine At.s rfl rfl rfl rfl (Cl.kept fun _ h => h) (R.load Try.underlying3 rfl (.t rfl) (by first | exact cK M0 rfl | exact cK M1 rfl | exact cK M2 rfl | exact cK M3 rfl | exact cK M4 rfl | exact cK M5 rfl | exact cK M6 rfl | exact cK M7 rfl)) ?_
  refine At.s rfl rfl rfl rfl (Cl.kept fun _ h => h) (R.indexArr Try.underlying58 sz_3 (.t rfl) (.t rfl) (fun hg => by first | omega | (simp [-List.length_eq_zero_iff] at hg; omega))) ?_
  refine At.s rfl rfl rfl rfl (Cl.kept fun _ h => h) (R.load Try.underlying3 rfl (.t rfl) (by first | exact cK M0 rfl | exact cK M1 rfl | exact cK M2 rfl | exact cK M3 rfl | exact cK M4 rfl | exact cK M5 rfl | exact cK M6 rfl | exact cK M7 rfl)) ?_
  first | refine At.s rfl rfl rfl rfl (Cl.kept fun _ h => h) (R.addI (.t rfl) .c (fun hg => by first | omega | (simp [-List.length_eq_zero_iff] at hg; omega))) ?_ | refine At.s rfl rfl rfl rfl (Cl.kept fun _ h => h) (R.add (.t rfl) .c) ?_
  refine At.s rfl rfl rfl rfl (Cl.kept fun _ h => h) (R.indexArr Try.underlying58 sz_3 (.t rfl) (.t rfl) (fun hg => by first | omega | (simp [-List.length_eq_zero_iff] at hg; omega))) ?_
  refine At.stage Cl.none ?_
  first | refine At.st1 rfl rfl sz_3 (.t rfl) (.t rfl) rfl rfl (.n U0) ⟨Cl.none, ?_⟩ | refine At.st1 rfl rfl sz_3 (.t rfl) (.t rfl) rfl rfl (.n U1) ⟨Cl.none, ?_⟩ | refine At.st1 rfl rfl sz_3 (.t rfl) (.t rfl) rfl rfl (.n U2) ⟨Cl.none, ?_⟩ | refine At.st1 rfl rfl sz_3 (.t rfl) (.t rfl) rfl rfl (.n U3) ⟨Cl.none, ?_⟩ | refine At.st1 rfl rfl sz_3 (.t rfl) (.t rfl) rfl rfl (.n U4) ⟨Cl.none, ?_⟩ | refine At.st1 rfl rfl sz_3 (.t rfl) (.t rfl) rfl rfl (.n U5) ⟨Cl.none, ?_⟩ | refine At.st1 rfl rfl sz_3 (.t rfl) (.t rfl) rfl rfl (.n U6) ⟨Cl.none, ?_⟩ | refine At.st1 rfl rfl sz_3 (.t rfl) (.t rfl) rfl rfl (.n U7) ⟨Cl.none, ?_⟩ | refine At.st1 rfl rfl sz_3 (.t rfl) (.t rfl) rfl rfl (.h U0) ⟨Cl.none, ?_⟩ | refine At.st1 rfl rfl sz_3 (.t rfl) (.t rfl) rfl rfl (.h U1) ⟨Cl.none, ?_⟩ | refine At.st1 rfl rfl sz_3 (.t rfl) (.t rfl) rfl rfl (.h U2) ⟨Cl.none, ?_⟩ | refine At.st1 rfl rfl sz_3 (.t rfl) (.t rfl) rfl rfl (.h U3) ⟨Cl.none, ?_⟩
  refine At.nil ?_
  refine At.tN ?_
  refine At.plain [(false, 0), (false, 1), (false, 2), (false, 3), (false, 4)] rfl ?_
  refine At.e rfl rfl rfl rfl .all (R.move (.t rfl)) ?_
  refine At.e rfl rfl rfl rfl .all (R.loadAgg (vs := [_, _, _, _, _]) Try.underlying60 rfl sz_60 (.t rfl) (by first | exact csS M0 ⟨rfl, rfl, rfl, rfl, rfl, trivial⟩ | exact csS M1 ⟨rfl, rfl, rfl, rfl, rfl, trivial⟩ | exact csS M2 ⟨rfl, rfl, rfl, rfl, rfl, trivial⟩ | exact csS M3 ⟨rfl, rfl, rfl, rfl, rfl, trivial⟩ | exact csS M4 ⟨rfl, rfl, rfl, rfl, rfl, trivial⟩ | exact csS M5 ⟨rfl, rfl, rfl, rfl, rfl, trivial⟩ | exact csS M6 ⟨rfl, rfl, rfl, rfl, rfl, trivial⟩ | exact csS M7 ⟨rfl, rfl, rfl, rfl, rfl, trivial⟩)) ?_
  refine At.e rfl rfl rfl rfl .all (R.nilCheckP (.t rfl)) ?_
  first | refine At.e rfl rfl rfl rfl .all (R.fieldAddr fo_62_2 (.t rfl)) ?_ | refine At.e rfl rfl rfl rfl .all (R.fieldRd fo_62_2 (.t rfl) (by (first | exact rS M0 | exact wS M0 | exact rS M1 | exact wS M1 | exact rS M2 | exact wS M2 | exact rS M3 | exact wS M3 | exact rS M4 | exact wS M4 | exact rS M5 | exact wS M5 | exact rS M6 | exact wS M6 | exact rS M7 | exact wS M7 | exact rS M8 | exact wS M8 | exact rS M9 | exact wS M9 | exact RdIn.nil | exact (fun w hw => hrK w (Cl.kept (by (first | exact fun _ h => h | exact keepOf (by (((repeat (first | exact List.Sublist.refl _ | exact List.nil_sublist _ | apply List.Sublist.cons_cons | apply List.Sublist.cons | exact List.sublist_append_right _ _ | exact List.sublist_append_left _ _ | apply List.Sublist.append_left | apply List.sublist_append_of_sublist_right)) <;> fail))))) w hw)))) (fun hg => (by first | omega | ((simp [-List.length_eq_zero_iff] at hg; omega)) | (simp only [List.length_append, List.length_cons, List.length_nil, List.length_take, List.length_drop]; omega)))) ?_
  first | refine At.stN rfl rfl sz_60 (.t rfl) (.t rfl) rfl rfl rfl (.n U0) ⟨.all, ?_⟩ | refine At.stN rfl rfl sz_60 (.t rfl) (.t rfl) rfl rfl rfl (.n U1) ⟨.all, ?_⟩ | refine At.stN rfl rfl sz_60 (.t rfl) (.t rfl) rfl rfl rfl (.n U2) ⟨.all, ?_⟩ | refine At.stN rfl rfl sz_60 (.t rfl) (.t rfl) rfl rfl rfl (.n U3) ⟨.all, ?_⟩ | refine At.stN rfl rfl sz_60 (.t rfl) (.t rfl) rfl rfl rfl (.n U4) ⟨.all, ?_⟩ | refine At.stN rfl rfl sz_60 (.t rfl) (.t rfl) rfl rfl rfl (.n U5) ⟨.all, ?_⟩ | refine At.stN rfl rfl sz_60 (.t rfl) (.t rfl) rfl rfl rfl (.n U6) ⟨.all, ?_⟩ | refine At.stN rfl rfl sz_60 (.t rfl) (.t rfl) rfl rfl rfl (.n U7) ⟨.all, ?_⟩ | refine At.stN rfl rfl sz_60 (.t rfl) (.t rfl) rfl rfl rfl (.h U0) ⟨.all, ?_⟩ | refine At.stN rfl rfl sz_60 (.t rfl) (.t rfl) rfl rfl rfl (.h U1) ⟨.all, ?_⟩ | refine At.stN rfl rfl sz_60 (.t rfl) (.t rfl) rfl rfl rfl (.h U2) ⟨.all, ?_⟩ | refine At.stN rfl rfl sz_60 (.t rfl) (.t rfl) rfl rfl rfl (.h U3) ⟨.all, ?_⟩
  refine At.nil ?_
  exact At.final0 rfl (List.nil_sublist _) (⟨rfl, rfl, rfl⟩) _ (.inr rfl)

theorem a_notes3 {b : Nat} {wv : Value} {a : Ar} (hf : a.few) {i old nw : Int} {ok : Bool} : Fn Try.prog 60 [.pointer (some ⟨b, 0, none⟩), .agg #[.int .i64 3, .int .i64 i, .int .i64 old, .int .i64 nw, .bool ok]] ([]) ([arB b wv a]) (IsM (.tuple #[]) [arB b wv (a.note 3 i old nw ok)]) := by
  refine Fn.enter Try.func60 (by kernel_rfl) rfl (n := 19) rfl rfl (fun w => ?_)
  obtain ⟨hf0, hf1, hf2, hf3, hf4⟩ := hf
  refine At.seq ?_
  refine At.plain [(false, 0)] rfl ?_
  refine At.box rfl rfl rfl (.t rfl) (fun b1 hb1 => ⟨.all, ?_⟩)
  refine At.nil ?_
  refine At.tN ?_
  refine At.seq ?_
  refine At.drawL ([]) [(true, 0), (true, 1), (true, 3), (true, 4), (true, 8), (true, 9)] [(true, 2), (true, 5), (true, 6), (true, 7), (true, 10)] [(false, 11)] (fun _ h => nomatch h) (by kernel_rfl) (by kernel_rfl) ?_
  refine At.s rfl rfl rfl rfl Cl.none (R.move (.t rfl)) ?_
  first | refine At.s rfl rfl rfl rfl Cl.none (R.fieldAddr fo_60_0 (.t rfl)) ?_ | refine At.s rfl rfl rfl rfl Cl.none (R.fieldRd fo_60_0 (.t rfl) (by (first | exact rK M0 | exact wK M0 | exact rK M1 | exact wK M1 | exact rK M2 | exact wK M2 | exact rK M3 | exact wK M3 | exact rK M4 | exact wK M4 | exact rK M5 | exact wK M5 | exact rK M6 | exact wK M6 | exact rK M7 | exact wK M7 | exact rK M8 | exact wK M8 | exact rK M9 | exact wK M9 | exact RdIn.nil | exact hrK)) (fun hg => (by first | omega | ((simp [-List.length_eq_zero_iff] at hg; omega)) | (simp only [List.length_append, List.length_cons, List.length_nil, List.length_take, List.length_drop]; omega)))) ?_
  refine At.s rfl rfl rfl rfl Cl.none (R.nilCheckP (.t rfl)) ?_
  first | refine At.s rfl rfl rfl rfl Cl.none (R.fieldAddr fo_62_1 (.t rfl)) ?_ | refine At.s rfl rfl rfl rfl Cl.none (R.fieldRd fo_62_1 (.t rfl) (by (first | exact rK M0 | exact wK M0 | exact rK M1 | exact wK M1 | exact rK M2 | exact wK M2 | exact rK M3 | exact wK M3 | exact rK M4 | exact wK M4 | exact rK M5 | exact wK M5 | exact rK M6 | exact wK M6 | exact rK M7 | exact wK M7 | exact rK M8 | exact wK M8 | exact rK M9 | exact wK M9 | exact RdIn.nil | exact hrK)) (fun hg => (by first | omega | ((simp [-List.length_eq_zero_iff] at hg; omega)) | (simp only [List.length_append, List.length_cons, List.length_nil, List.length_take, List.length_drop]; omega)))) ?_
  refine At.s rfl rfl rfl rfl Cl.none (R.nilCheckP (.t rfl)) ?_
  first | refine At.s rfl rfl rfl rfl Cl.none (R.fieldAddr fo_62_1 (.t rfl)) ?_ | refine At.s rfl rfl rfl rfl Cl.none (R.fieldRd fo_62_1 (.t rfl) (by (first | exact rK M0 | exact wK M0 | exact rK M1 | exact wK M1 | exact rK M2 | exact wK M2 | exact rK M3 | exact wK M3 | exact rK M4 | exact wK M4 | exact rK M5 | exact wK M5 | exact rK M6 | exact wK M6 | exact rK M7 | exact wK M7 | exact rK M8 | exact wK M8 | exact rK M9 | exact wK M9 | exact RdIn.nil | exact hrK)) (fun hg => (by first | omega | ((simp [-List.length_eq_zero_iff] at hg; omega)) | (simp only [List.length_append, List.length_cons, List.length_nil, List.length_take, List.length_drop]; omega)))) ?_
  refine At.stage (Cl.kept fun _ h => h) ?_
  refine At.s rfl rfl rfl rfl (Cl.kept fun _ h => h) (R.load Try.underlying3 rfl (.t rfl) (by first | exact cK M0 rfl | exact cK M1 rfl | exact cK M2 rfl | exact cK M3 rfl | exact cK M4 rfl | exact cK M5 rfl | exact cK M6 rfl | exact cK M7 rfl)) ?_
  refine At.s rfl rfl rfl rfl (Cl.kept fun _ h => h) (R.indexArr Try.underlying58 sz_3 (.t rfl) (.t rfl) (fun hg => by first | omega | (simp [-List.length_eq_zero_iff] at hg; omega))) ?_
  refine At.s rfl rfl rfl rfl (Cl.kept fun _ h => h) (R.load Try.underlying3 rfl (.t rfl) (by first | exact cK M0 rfl | exact cK M1 rfl | exact cK M2 rfl | exact cK M3 rfl | exact cK M4 rfl | exact cK M5 rfl | exact cK M6 rfl | exact cK M7 rfl)) ?_
  first | refine At.s rfl rfl rfl rfl (Cl.kept fun _ h => h) (R.addI (.t rfl) .c (fun hg => by first | omega | (simp [-List.length_eq_zero_iff] at hg; omega))) ?_ | refine At.s rfl rfl rfl rfl (Cl.kept fun _ h => h) (R.add (.t rfl) .c) ?_
  refine At.s rfl rfl rfl rfl (Cl.kept fun _ h => h) (R.indexArr Try.underlying58 sz_3 (.t rfl) (.t rfl) (fun hg => by first | omega | (simp [-List.length_eq_zero_iff] at hg; omega))) ?_
  refine At.stage Cl.none ?_
  first | refine At.st1 rfl rfl sz_3 (.t rfl) (.t rfl) rfl rfl (.n U0) ⟨Cl.none, ?_⟩ | refine At.st1 rfl rfl sz_3 (.t rfl) (.t rfl) rfl rfl (.n U1) ⟨Cl.none, ?_⟩ | refine At.st1 rfl rfl sz_3 (.t rfl) (.t rfl) rfl rfl (.n U2) ⟨Cl.none, ?_⟩ | refine At.st1 rfl rfl sz_3 (.t rfl) (.t rfl) rfl rfl (.n U3) ⟨Cl.none, ?_⟩ | refine At.st1 rfl rfl sz_3 (.t rfl) (.t rfl) rfl rfl (.n U4) ⟨Cl.none, ?_⟩ | refine At.st1 rfl rfl sz_3 (.t rfl) (.t rfl) rfl rfl (.n U5) ⟨Cl.none, ?_⟩ | refine At.st1 rfl rfl sz_3 (.t rfl) (.t rfl) rfl rfl (.n U6) ⟨Cl.none, ?_⟩ | refine At.st1 rfl rfl sz_3 (.t rfl) (.t rfl) rfl rfl (.n U7) ⟨Cl.none, ?_⟩ | refine At.st1 rfl rfl sz_3 (.t rfl) (.t rfl) rfl rfl (.h U0) ⟨Cl.none, ?_⟩ | refine At.st1 rfl rfl sz_3 (.t rfl) (.t rfl) rfl rfl (.h U1) ⟨Cl.none, ?_⟩ | refine At.st1 rfl rfl sz_3 (.t rfl) (.t rfl) rfl rfl (.h U2) ⟨Cl.none, ?_⟩ | refine At.st1 rfl rfl sz_3 (.t rfl) (.t rfl) rfl rfl (.h U3) ⟨Cl.none, ?_⟩
  refine At.nil ?_
  refine At.tN ?_
  refine At.plain [(false, 0), (false, 1), (false, 2), (false, 3), (false, 4)] rfl ?_
  refine At.e rfl rfl rfl rfl .all (R.move (.t rfl)) ?_
  refine At.e rfl rfl rfl rfl .all (R.loadAgg (vs := [_, _, _, _, _]) Try.underlying60 rfl sz_60 (.t rfl) (by first | exact csS M0 ⟨rfl, rfl, rfl, rfl, rfl, trivial⟩ | exact csS M1 ⟨rfl, rfl, rfl, rfl, rfl, trivial⟩ | exact csS M2 ⟨rfl, rfl, rfl, rfl, rfl, trivial⟩ | exact csS M3 ⟨rfl, rfl, rfl, rfl, rfl, trivial⟩ | exact csS M4 ⟨rfl, rfl, rfl, rfl, rfl, trivial⟩ | exact csS M5 ⟨rfl, rfl, rfl, rfl, rfl, trivial⟩ | exact csS M6 ⟨rfl, rfl, rfl, rfl, rfl, trivial⟩ | exact csS M7 ⟨rfl, rfl, rfl, rfl, rfl, trivial⟩)) ?_
  refine At.e rfl rfl rfl rfl .all (R.nilCheckP (.t rfl)) ?_
  first | refine At.e rfl rfl rfl rfl .all (R.fieldAddr fo_62_2 (.t rfl)) ?_ | refine At.e rfl rfl rfl rfl .all (R.fieldRd fo_62_2 (.t rfl) (by (first | exact rS M0 | exact wS M0 | exact rS M1 | exact wS M1 | exact rS M2 | exact wS M2 | exact rS M3 | exact wS M3 | exact rS M4 | exact wS M4 | exact rS M5 | exact wS M5 | exact rS M6 | exact wS M6 | exact rS M7 | exact wS M7 | exact rS M8 | exact wS M8 | exact rS M9 | exact wS M9 | exact RdIn.nil | exact (fun w hw => hrK w (Cl.kept (by (first | exact fun _ h => h | exact keepOf (by (((repeat (first | exact List.Sublist.refl _ | exact List.nil_sublist _ | apply List.Sublist.cons_cons | apply List.Sublist.cons | exact List.sublist_append_right _ _ | exact List.sublist_append_left _ _ | apply List.Sublist.append_left | apply List.sublist_append_of_sublist_right)) <;> fail))))) w hw)))) (fun hg => (by first | omega | ((simp [-List.length_eq_zero_iff] at hg; omega)) | (simp only [List.length_append, List.length_cons, List.length_nil, List.length_take, List.length_drop]; omega)))) ?_
  first | refine At.stN rfl rfl sz_60 (.t rfl) (.t rfl) rfl rfl rfl (.n U0) ⟨.all, ?_⟩ | refine At.stN rfl rfl sz_60 (.t rfl) (.t rfl) rfl rfl rfl (.n U1) ⟨.all, ?_⟩ | refine At.stN rfl rfl sz_60 (.t rfl) (.t rfl) rfl rfl rfl (.n U2) ⟨.all, ?_⟩ | refine At.stN rfl rfl sz_60 (.t rfl) (.t rfl) rfl rfl rfl (.n U3) ⟨.all, ?_⟩ | refine At.stN rfl rfl sz_60 (.t rfl) (.t rfl) rfl rfl rfl (.n U4) ⟨.all, ?_⟩ | refine At.stN rfl rfl sz_60 (.t rfl) (.t rfl) rfl rfl rfl (.n U5) ⟨.all, ?_⟩ | refine At.stN rfl rfl sz_60 (.t rfl) (.t rfl) rfl rfl rfl (.n U6) ⟨.all, ?_⟩ | refine At.stN rfl rfl sz_60 (.t rfl) (.t rfl) rfl rfl rfl (.n U7) ⟨.all, ?_⟩ | refine At.stN rfl rfl sz_60 (.t rfl) (.t rfl) rfl rfl rfl (.h U0) ⟨.all, ?_⟩ | refine At.stN rfl rfl sz_60 (.t rfl) (.t rfl) rfl rfl rfl (.h U1) ⟨.all, ?_⟩ | refine At.stN rfl rfl sz_60 (.t rfl) (.t rfl) rfl rfl rfl (.h U2) ⟨.all, ?_⟩ | refine At.stN rfl rfl sz_60 (.t rfl) (.t rfl) rfl rfl rfl (.h U3) ⟨.all, ?_⟩
  refine At.nil ?_
  exact At.final0 rfl (List.nil_sublist _) (⟨rfl, rfl, rfl⟩) _ (.inr rfl)

theorem a_notes4 {b : Nat} {wv : Value} {a : Ar} (hf : a.few) {i old nw : Int} {ok : Bool} : Fn Try.prog 60 [.pointer (some ⟨b, 0, none⟩), .agg #[.int .i64 4, .int .i64 i, .int .i64 old, .int .i64 nw, .bool ok]] ([]) ([arB b wv a]) (IsM (.tuple #[]) [arB b wv (a.note 4 i old nw ok)]) := by
  refine Fn.enter Try.func60 (by kernel_rfl) rfl (n := 19) rfl rfl (fun w => ?_)
  obtain ⟨hf0, hf1, hf2, hf3, hf4⟩ := hf
  refine At.seq ?_
  refine At.plain [(false, 0)] rfl ?_
  refine At.box rfl rfl rfl (.t rfl) (fun b1 hb1 => ⟨.all, ?_⟩)
  refine At.nil ?_
  refine At.tN ?_
  refine At.seq ?_
  refine At.drawL ([]) [(true, 0), (true, 1), (true, 3), (true, 4), (true, 8), (true, 9)] [(true, 2), (true, 5), (true, 6), (true, 7), (true, 10)] [(false, 11)] (fun _ h => nomatch h) (by kernel_rfl) (by kernel_rfl) ?_
  refine At.s rfl rfl rfl rfl Cl.none (R.move (.t rfl)) ?_
  first | refine At.s rfl rfl rfl rfl Cl.none (R.fieldAddr fo_60_0 (.t rfl)) ?_ | refine At.s rfl rfl rfl rfl Cl.none (R.fieldRd fo_60_0 (.t rfl) (by (first | exact rK M0 | exact wK M0 | exact rK M1 | exact wK M1 | exact rK M2 | exact wK M2 | exact rK M3 | exact wK M3 | exact rK M4 | exact wK M4 | exact rK M5 | exact wK M5 | exact rK M6 | exact wK M6 | exact rK M7 | exact wK M7 | exact rK M8 | exact wK M8 | exact rK M9 | exact wK M9 | exact RdIn.nil | exact hrK)) (fun hg => (by first | omega | ((simp [-List.length_eq_zero_iff] at hg; omega)) | (simp only [List.length_append, List.length_cons, List.length_nil, List.length_take, List.length_drop]; omega)))) ?_
  refine At.s rfl rfl rfl rfl Cl.none (R.nilCheckP (.t rfl)) ?_
  first | refine At.s rfl rfl rfl rfl Cl.none (R.fieldAddr fo_62_1 (.t rfl)) ?_ | refine At.s rfl rfl rfl rfl Cl.none (R.fieldRd fo_62_1 (.t rfl) (by (first | exact rK M0 | exact wK M0 | exact rK M1 | exact wK M1 | exact rK M2 | exact wK M2 | exact rK M3 | exact wK M3 | exact rK M4 | exact wK M4 | exact rK M5 | exact wK M5 | exact rK M6 | exact wK M6 | exact rK M7 | exact wK M7 | exact rK M8 | exact wK M8 | exact rK M9 | exact wK M9 | exact RdIn.nil | exact hrK)) (fun hg => (by first | omega | ((simp [-List.length_eq_zero_iff] at hg; omega)) | (simp only [List.length_append, List.length_cons, List.length_nil, List.length_take, List.length_drop]; omega)))) ?_
  refine At.s rfl rfl rfl rfl Cl.none (R.nilCheckP (.t rfl)) ?_
  first | refine At.s rfl rfl rfl rfl Cl.none (R.fieldAddr fo_62_1 (.t rfl)) ?_ | refine At.s rfl rfl rfl rfl Cl.none (R.fieldRd fo_62_1 (.t rfl) (by (first | exact rK M0 | exact wK M0 | exact rK M1 | exact wK M1 | exact rK M2 | exact wK M2 | exact rK M3 | exact wK M3 | exact rK M4 | exact wK M4 | exact rK M5 | exact wK M5 | exact rK M6 | exact wK M6 | exact rK M7 | exact wK M7 | exact rK M8 | exact wK M8 | exact rK M9 | exact wK M9 | exact RdIn.nil | exact hrK)) (fun hg => (by first | omega | ((simp [-List.length_eq_zero_iff] at hg; omega)) | (simp only [List.length_append, List.length_cons, List.length_nil, List.length_take, List.length_drop]; omega)))) ?_
  refine At.stage (Cl.kept fun _ h => h) ?_
  refine At.s rfl rfl rfl rfl (Cl.kept fun _ h => h) (R.load Try.underlying3 rfl (.t rfl) (by first | exact cK M0 rfl | exact cK M1 rfl | exact cK M2 rfl | exact cK M3 rfl | exact cK M4 rfl | exact cK M5 rfl | exact cK M6 rfl | exact cK M7 rfl)) ?_
  refine At.s rfl rfl rfl rfl (Cl.kept fun _ h => h) (R.indexArr Try.underlying58 sz_3 (.t rfl) (.t rfl) (fun hg => by first | omega | (simp [-List.length_eq_zero_iff] at hg; omega))) ?_
  refine At.s rfl rfl rfl rfl (Cl.kept fun _ h => h) (R.load Try.underlying3 rfl (.t rfl) (by first | exact cK M0 rfl | exact cK M1 rfl | exact cK M2 rfl | exact cK M3 rfl | exact cK M4 rfl | exact cK M5 rfl | exact cK M6 rfl | exact cK M7 rfl)) ?_
  first | refine At.s rfl rfl rfl rfl (Cl.kept fun _ h => h) (R.addI (.t rfl) .c (fun hg => by first | omega | (simp [-List.length_eq_zero_iff] at hg; omega))) ?_ | refine At.s rfl rfl rfl rfl (Cl.kept fun _ h => h) (R.add (.t rfl) .c) ?_
  refine At.s rfl rfl rfl rfl (Cl.kept fun _ h => h) (R.indexArr Try.underlying58 sz_3 (.t rfl) (.t rfl) (fun hg => by first | omega | (simp [-List.length_eq_zero_iff] at hg; omega))) ?_
  refine At.stage Cl.none ?_
  first | refine At.st1 rfl rfl sz_3 (.t rfl) (.t rfl) rfl rfl (.n U0) ⟨Cl.none, ?_⟩ | refine At.st1 rfl rfl sz_3 (.t rfl) (.t rfl) rfl rfl (.n U1) ⟨Cl.none, ?_⟩ | refine At.st1 rfl rfl sz_3 (.t rfl) (.t rfl) rfl rfl (.n U2) ⟨Cl.none, ?_⟩ | refine At.st1 rfl rfl sz_3 (.t rfl) (.t rfl) rfl rfl (.n U3) ⟨Cl.none, ?_⟩ | refine At.st1 rfl rfl sz_3 (.t rfl) (.t rfl) rfl rfl (.n U4) ⟨Cl.none, ?_⟩ | refine At.st1 rfl rfl sz_3 (.t rfl) (.t rfl) rfl rfl (.n U5) ⟨Cl.none, ?_⟩ | refine At.st1 rfl rfl sz_3 (.t rfl) (.t rfl) rfl rfl (.n U6) ⟨Cl.none, ?_⟩ | refine At.st1 rfl rfl sz_3 (.t rfl) (.t rfl) rfl rfl (.n U7) ⟨Cl.none, ?_⟩ | refine At.st1 rfl rfl sz_3 (.t rfl) (.t rfl) rfl rfl (.h U0) ⟨Cl.none, ?_⟩ | refine At.st1 rfl rfl sz_3 (.t rfl) (.t rfl) rfl rfl (.h U1) ⟨Cl.none, ?_⟩ | refine At.st1 rfl rfl sz_3 (.t rfl) (.t rfl) rfl rfl (.h U2) ⟨Cl.none, ?_⟩ | refine At.st1 rfl rfl sz_3 (.t rfl) (.t rfl) rfl rfl (.h U3) ⟨Cl.none, ?_⟩
  refine At.nil ?_
  refine At.tN ?_
  refine At.plain [(false, 0), (false, 1), (false, 2), (false, 3), (false, 4)] rfl ?_
  refine At.e rfl rfl rfl rfl .all (R.move (.t rfl)) ?_
  refine At.e rfl rfl rfl rfl .all (R.loadAgg (vs := [_, _, _, _, _]) Try.underlying60 rfl sz_60 (.t rfl) (by first | exact csS M0 ⟨rfl, rfl, rfl, rfl, rfl, trivial⟩ | exact csS M1 ⟨rfl, rfl, rfl, rfl, rfl, trivial⟩ | exact csS M2 ⟨rfl, rfl, rfl, rfl, rfl, trivial⟩ | exact csS M3 ⟨rfl, rfl, rfl, rfl, rfl, trivial⟩ | exact csS M4 ⟨rfl, rfl, rfl, rfl, rfl, trivial⟩ | exact csS M5 ⟨rfl, rfl, rfl, rfl, rfl, trivial⟩ | exact csS M6 ⟨rfl, rfl, rfl, rfl, rfl, trivial⟩ | exact csS M7 ⟨rfl, rfl, rfl, rfl, rfl, trivial⟩)) ?_
  refine At.e rfl rfl rfl rfl .all (R.nilCheckP (.t rfl)) ?_
  first | refine At.e rfl rfl rfl rfl .all (R.fieldAddr fo_62_2 (.t rfl)) ?_ | refine At.e rfl rfl rfl rfl .all (R.fieldRd fo_62_2 (.t rfl) (by (first | exact rS M0 | exact wS M0 | exact rS M1 | exact wS M1 | exact rS M2 | exact wS M2 | exact rS M3 | exact wS M3 | exact rS M4 | exact wS M4 | exact rS M5 | exact wS M5 | exact rS M6 | exact wS M6 | exact rS M7 | exact wS M7 | exact rS M8 | exact wS M8 | exact rS M9 | exact wS M9 | exact RdIn.nil | exact (fun w hw => hrK w (Cl.kept (by (first | exact fun _ h => h | exact keepOf (by (((repeat (first | exact List.Sublist.refl _ | exact List.nil_sublist _ | apply List.Sublist.cons_cons | apply List.Sublist.cons | exact List.sublist_append_right _ _ | exact List.sublist_append_left _ _ | apply List.Sublist.append_left | apply List.sublist_append_of_sublist_right)) <;> fail))))) w hw)))) (fun hg => (by first | omega | ((simp [-List.length_eq_zero_iff] at hg; omega)) | (simp only [List.length_append, List.length_cons, List.length_nil, List.length_take, List.length_drop]; omega)))) ?_
  first | refine At.stN rfl rfl sz_60 (.t rfl) (.t rfl) rfl rfl rfl (.n U0) ⟨.all, ?_⟩ | refine At.stN rfl rfl sz_60 (.t rfl) (.t rfl) rfl rfl rfl (.n U1) ⟨.all, ?_⟩ | refine At.stN rfl rfl sz_60 (.t rfl) (.t rfl) rfl rfl rfl (.n U2) ⟨.all, ?_⟩ | refine At.stN rfl rfl sz_60 (.t rfl) (.t rfl) rfl rfl rfl (.n U3) ⟨.all, ?_⟩ | refine At.stN rfl rfl sz_60 (.t rfl) (.t rfl) rfl rfl rfl (.n U4) ⟨.all, ?_⟩ | refine At.stN rfl rfl sz_60 (.t rfl) (.t rfl) rfl rfl rfl (.n U5) ⟨.all, ?_⟩ | refine At.stN rfl rfl sz_60 (.t rfl) (.t rfl) rfl rfl rfl (.n U6) ⟨.all, ?_⟩ | refine At.stN rfl rfl sz_60 (.t rfl) (.t rfl) rfl rfl rfl (.n U7) ⟨.all, ?_⟩ | refine At.stN rfl rfl sz_60 (.t rfl) (.t rfl) rfl rfl rfl (.h U0) ⟨.all, ?_⟩ | refine At.stN rfl rfl sz_60 (.t rfl) (.t rfl) rfl rfl rfl (.h U1) ⟨.all, ?_⟩ | refine At.stN rfl rfl sz_60 (.t rfl) (.t rfl) rfl rfl rfl (.h U2) ⟨.all, ?_⟩ | refine At.stN rfl rfl sz_60 (.t rfl) (.t rfl) rfl rfl rfl (.h U3) ⟨.all, ?_⟩
  refine At.nil ?_
  exact At.final0 rfl (List.nil_sublist _) (⟨rfl, rfl, rfl⟩) _ (.inr rfl)

theorem a_changes1 {b n : Nat} {wv : Value} {a : Ar} (hn : a.w.length = n) (hN : n ≤ 1000000) (hf : a.few) {f : FuncId} {fst cap : List Value} {bks : List (Nat × Obj)} {g : Int → Int} {okf : Int → Bool} (hfn : ∀ x : Int, Fn Try.prog f (fst ++ [.int .i64 x] ++ cap) (bks.map fun x => .blk x.1 x.2) [] (IsV (.tuple #[.int .i64 (g x), .bool (okf x)]))) {i : Int} : Fn Try.prog 46 [.pointer (some ⟨b, 0, none⟩), .int .i64 1, .int .i64 i, .func (.func f) fst.toArray cap.toArray] (bks.map fun x => .blk x.1 x.2) ([arB b wv a, arW wv n a]) (IsM (.tuple #[.int .i64 (a.peek i), .bool (a.ran i okf)]) [arB b wv (a.acc 1 i g okf), arW wv n (a.acc 1 i g okf)]) := by
  refine Fn.enter Try.func46 (by kernel_rfl) rfl (n := 56) rfl rfl (fun w => ?_)
  refine At.seq ?_
  refine At.plain [(false, 0), (false, 1)] rfl ?_
  refine At.e rfl rfl rfl rfl .all (R.assign .c) ?_
  refine At.e rfl rfl rfl rfl .all (R.assign .c) ?_
  refine At.nil ?_
  refine At.tN ?_
  refine At.seq ?_
  refine At.seq ?_
  refine At.plain [(false, 0), (false, 1), (false, 2), (false, 3)] rfl ?_
  refine At.e rfl rfl rfl rfl .all (R.move (.t rfl)) ?_
  refine At.e rfl rfl rfl rfl .all (R.move (.t rfl)) ?_
  refine At.callVR rfl rfl rfl (.cons (.t rfl) (.cons (.t rfl) .nil)) (.blk (.st (List.mem_append_right _ M0)) (.cons (wS (List.mem_append_right _ M1)) .nil)) (fun hg => a_is hn hN (a := a)) .all ?_
  refine At.e rfl rfl rfl rfl .all (R.not (.t rfl)) ?_
  refine At.nil ?_
  refine At.tN ?_
  first | refine At.condD (.t rfl) (fun c1 => ?_) (fun c1 => ?_) | refine At.condN (.t rfl) (fun c1 => ?_) (fun c1 => ?_) | refine At.cond (.t rfl) (fun c1 => ?_) (fun c1 => ?_)
  · have hh0 : ¬ a.hit i = true := (by simpa using c1)
    refine At.seq ?_
    refine At.plain [(false, 0), (false, 1), (false, 2), (false, 3), (false, 4)] rfl ?_
    refine At.e rfl rfl rfl rfl .all (R.move (.t rfl)) ?_
    refine At.e rfl rfl rfl rfl .all (R.move (.t rfl)) ?_
    refine At.e rfl rfl rfl rfl .all (R.move (.t rfl)) ?_
    refine At.e rfl rfl rfl rfl .all (R.build bt_60 (.cons (.t rfl) (.cons (.t rfl) .nil)) (.cons rfl (.cons rfl .nil)) rfl) ?_
    refine At.callM (fst := []) (cap := []) rfl rfl rfl Ev.f (.cons (.t rfl) (.cons (.t rfl) .nil)) rfl (.h (.take .nil)) .nil (a_notes1 (a := a) hf) rfl .nil ⟨.all, ?_⟩
    refine At.nil ?_
    refine At.tN ?_
    refine At.seq ?_
    refine At.plain [(false, 0), (false, 1)] rfl ?_
    refine At.e rfl rfl rfl rfl .all (R.assign .c) ?_
    refine At.e rfl rfl rfl rfl .all (R.assign .c) ?_
    refine At.nil ?_
    refine At.tN ?_
    refine At.ret ?_
    refine At.tR ?_
    exact At.final2 rfl (.t rfl) (.t rfl) (List.nil_sublist _) (⟨by unfold Ar.peek Ar.ran; first | (rw [if_pos hh0, if_pos hh0]; rfl) | (rw [if_pos hh0, if_pos hh0]) | (rw [if_neg hh0, if_neg hh0]), rfl, by unfold Ar.acc Ar.poke; first | (rw [if_pos hh0, if_pos hh0]; rfl) | (rw [if_neg hh0]; rfl)⟩)
  · have hh0 : a.hit i = true := (by simpa using c1); have hh := Ar.hit_yes hh0; refine At.rowForm (v := wv) (List.mem_append_right _ M1) (by omega) (fun gg cap2 hv => ?_); subst hv
    refine At.skip ?_
    refine At.tN ?_
    refine At.seq ?_
    refine At.plain [(false, 0), (false, 1), (false, 2), (false, 3), (false, 4), (false, 5), (false, 6), (false, 7)] rfl ?_
    refine At.e rfl rfl rfl rfl .all (R.move (.t rfl)) ?_
    refine At.e rfl rfl rfl rfl .all (R.nilCheckP (.t rfl)) ?_
    first | refine At.e rfl rfl rfl rfl .all (R.fieldAddr fo_62_0 (.t rfl)) ?_ | refine At.e rfl rfl rfl rfl .all (R.fieldRd fo_62_0 (.t rfl) (by first | exact nestS hG (by first | omega | (simp [-List.length_eq_zero_iff] at hg; omega)) | exact rS M0 | exact wS M0 | exact rS M1 | exact wS M1 | exact rS M2 | exact wS M2 | exact rS M3 | exact wS M3 | exact rS M4 | exact wS M4 | exact rS M5 | exact wS M5 | exact rS M6 | exact wS M6 | exact rS M7 | exact wS M7 | exact rS M8 | exact wS M8 | exact rS M9 | exact wS M9 | exact rN M0 | exact wN M0 | exact rN M1 | exact wN M1 | exact rN M2 | exact wN M2 | exact rN M3 | exact wN M3 | exact RdIn.nil) (fun hg => (by first | omega | ((simp [-List.length_eq_zero_iff] at hg; omega)) | (simp only [List.length_append, List.length_cons, List.length_nil, List.length_take, List.length_drop]; omega)))) ?_
    refine At.e rfl rfl rfl rfl .all (R.load Try.underlying57 rfl (.t rfl) (by first | exact cS M0 rfl | exact cS M1 rfl | exact cS M2 rfl | exact cS M3 rfl | exact cS M4 rfl | exact cS M5 rfl | exact cS M6 rfl | exact cS M7 rfl | exact cN M0 rfl | exact cN M1 rfl | exact cN M2 rfl | exact cN M3 rfl | exact cN M4 rfl)) ?_
    refine At.e rfl rfl rfl rfl .all (R.move (.t rfl)) ?_
    first | refine At.e rfl rfl rfl rfl .all (R.indexRd Try.underlying57 sz_3 (.t rfl) (by first | exact nestS hG (by first | omega | (simp [-List.length_eq_zero_iff] at hg; omega)) | exact rS M0 | exact wS M0 | exact rS M1 | exact wS M1 | exact rS M2 | exact wS M2 | exact rS M3 | exact wS M3 | exact rS M4 | exact wS M4 | exact rS M5 | exact wS M5 | exact rS M6 | exact wS M6 | exact rS M7 | exact wS M7 | exact rS M8 | exact wS M8 | exact rS M9 | exact wS M9 | exact rN M0 | exact wN M0 | exact rN M1 | exact wN M1 | exact rN M2 | exact wN M2 | exact rN M3 | exact wN M3 | exact RdIn.nil) (.t rfl) (fun hg => (by first | omega | ((simp [-List.length_eq_zero_iff] at hg; omega)) | (simp only [List.length_append, List.length_cons, List.length_nil, List.length_take, List.length_drop]; omega)))) ?_ | refine At.e rfl rfl rfl rfl .all (R.indexSlE Try.underlying57 sz_3 (.t rfl) (.t rfl) (fun hg => by first | omega | (simp [-List.length_eq_zero_iff] at hg; omega))) ?_
    first | refine At.e rfl rfl rfl rfl .all (R.loadRd Try.underlying3 rfl (.t rfl) (by first | exact nestS hG (by first | omega | (simp [-List.length_eq_zero_iff] at hg; omega)) | exact rS M0 | exact wS M0 | exact rS M1 | exact wS M1 | exact rS M2 | exact wS M2 | exact rS M3 | exact wS M3 | exact rS M4 | exact wS M4 | exact rS M5 | exact wS M5 | exact rS M6 | exact wS M6 | exact rS M7 | exact wS M7 | exact rS M8 | exact wS M8 | exact rS M9 | exact wS M9 | exact rN M0 | exact wN M0 | exact rN M1 | exact wN M1 | exact rN M2 | exact wN M2 | exact rN M3 | exact wN M3 | exact RdIn.nil) (fun hg => by exact nestGet (by first | omega | ((simp [-List.length_eq_zero_iff] at hg; omega)) | (simp only [List.length_append, List.length_cons, List.length_nil, List.length_take, List.length_drop]; omega)))) ?_ | refine At.e rfl rfl rfl rfl .all (R.loadRd Try.underlying3 rfl (.t rfl) (by first | exact nestS hG (by first | omega | (simp [-List.length_eq_zero_iff] at hg; omega)) | exact rS M0 | exact wS M0 | exact rS M1 | exact wS M1 | exact rS M2 | exact wS M2 | exact rS M3 | exact wS M3 | exact rS M4 | exact wS M4 | exact rS M5 | exact wS M5 | exact rS M6 | exact wS M6 | exact rS M7 | exact wS M7 | exact rS M8 | exact wS M8 | exact rS M9 | exact wS M9 | exact rN M0 | exact wN M0 | exact rN M1 | exact wN M1 | exact rN M2 | exact wN M2 | exact rN M3 | exact wN M3 | exact RdIn.nil) (fun hg => by exact Ek.getN rfl (by first | omega | ((simp [-List.length_eq_zero_iff] at hg; omega)) | (simp only [List.length_append, List.length_cons, List.length_nil, List.length_take, List.length_drop]; omega)))) ?_ | refine At.e rfl rfl rfl rfl .all (R.loadRd Try.underlying3 rfl (.t rfl) (by first | exact nestS hG (by first | omega | (simp [-List.length_eq_zero_iff] at hg; omega)) | exact rS M0 | exact wS M0 | exact rS M1 | exact wS M1 | exact rS M2 | exact wS M2 | exact rS M3 | exact wS M3 | exact rS M4 | exact wS M4 | exact rS M5 | exact wS M5 | exact rS M6 | exact wS M6 | exact rS M7 | exact wS M7 | exact rS M8 | exact wS M8 | exact rS M9 | exact wS M9 | exact rN M0 | exact wN M0 | exact rN M1 | exact wN M1 | exact rN M2 | exact wN M2 | exact rN M3 | exact wN M3 | exact RdIn.nil) (fun hg => by exact Ek.get0 rfl (by first | omega | ((simp [-List.length_eq_zero_iff] at hg; omega)) | (simp only [List.length_append, List.length_cons, List.length_nil, List.length_take, List.length_drop]; omega)))) ?_
    refine At.e rfl rfl rfl rfl .all (R.assign (.t rfl)) ?_
    refine At.nil ?_
    refine At.tN ?_
    refine At.seq ?_
    refine At.plain [(false, 0), (false, 1), (false, 2), (false, 3), (false, 4), (false, 5), (false, 6), (false, 7)] rfl ?_
    refine At.e rfl rfl rfl rfl .all (R.move (.t rfl)) ?_
    refine At.e rfl rfl rfl rfl .all (R.move (.t rfl)) ?_
    refine At.callVF (fst := fst) (cap := cap) rfl rfl rfl (.t rfl) (.cons (.t rfl) .nil) rfl (Rds.blks (fun x hx => .st (List.mem_append_left _ (List.mem_map.2 ⟨x, hx, rfl⟩)))) (fun hg => hfn (gE a.w i)) .all ?_
    refine At.e rfl rfl rfl rfl .all (R.move (.t rfl)) ?_
    refine At.e rfl rfl rfl rfl .all (R.extract (.t rfl) rfl) ?_
    refine At.e rfl rfl rfl rfl .all (R.extract (.t rfl) rfl) ?_
    refine At.e rfl rfl rfl rfl .all (R.assign (.t rfl)) ?_
    refine At.e rfl rfl rfl rfl .all (R.assign (.t rfl)) ?_
    refine At.nil ?_
    refine At.tN ?_
    refine At.seq ?_
    refine At.plain [(false, 0), (false, 1), (false, 2), (false, 3), (false, 4), (false, 5), (false, 6), (false, 7)] rfl ?_
    refine At.e rfl rfl rfl rfl .all (R.move (.t rfl)) ?_
    refine At.e rfl rfl rfl rfl .all (R.nilCheckP (.t rfl)) ?_
    first | refine At.e rfl rfl rfl rfl .all (R.fieldAddr fo_62_0 (.t rfl)) ?_ | refine At.e rfl rfl rfl rfl .all (R.fieldRd fo_62_0 (.t rfl) (by first | exact nestS hG (by first | omega | (simp [-List.length_eq_zero_iff] at hg; omega)) | exact rS M0 | exact wS M0 | exact rS M1 | exact wS M1 | exact rS M2 | exact wS M2 | exact rS M3 | exact wS M3 | exact rS M4 | exact wS M4 | exact rS M5 | exact wS M5 | exact rS M6 | exact wS M6 | exact rS M7 | exact wS M7 | exact rS M8 | exact wS M8 | exact rS M9 | exact wS M9 | exact rN M0 | exact wN M0 | exact rN M1 | exact wN M1 | exact rN M2 | exact wN M2 | exact rN M3 | exact wN M3 | exact RdIn.nil) (fun hg => (by first | omega | ((simp [-List.length_eq_zero_iff] at hg; omega)) | (simp only [List.length_append, List.length_cons, List.length_nil, List.length_take, List.length_drop]; omega)))) ?_
    refine At.e rfl rfl rfl rfl .all (R.load Try.underlying57 rfl (.t rfl) (by first | exact cS M0 rfl | exact cS M1 rfl | exact cS M2 rfl | exact cS M3 rfl | exact cS M4 rfl | exact cS M5 rfl | exact cS M6 rfl | exact cS M7 rfl | exact cN M0 rfl | exact cN M1 rfl | exact cN M2 rfl | exact cN M3 rfl | exact cN M4 rfl)) ?_
    refine At.e rfl rfl rfl rfl .all (R.move (.t rfl)) ?_
    refine At.e rfl rfl rfl rfl .all (R.move (.t rfl)) ?_
    first | refine At.e rfl rfl rfl rfl .all (R.indexRd Try.underlying57 sz_3 (.t rfl) (by first | exact nestS hG (by first | omega | (simp [-List.length_eq_zero_iff] at hg; omega)) | exact rS M0 | exact wS M0 | exact rS M1 | exact wS M1 | exact rS M2 | exact wS M2 | exact rS M3 | exact wS M3 | exact rS M4 | exact wS M4 | exact rS M5 | exact wS M5 | exact rS M6 | exact wS M6 | exact rS M7 | exact wS M7 | exact rS M8 | exact wS M8 | exact rS M9 | exact wS M9 | exact rN M0 | exact wN M0 | exact rN M1 | exact wN M1 | exact rN M2 | exact wN M2 | exact rN M3 | exact wN M3 | exact RdIn.nil) (.t rfl) (fun hg => (by first | omega | ((simp [-List.length_eq_zero_iff] at hg; omega)) | (simp only [List.length_append, List.length_cons, List.length_nil, List.length_take, List.length_drop]; omega)))) ?_ | refine At.e rfl rfl rfl rfl .all (R.indexSlE Try.underlying57 sz_3 (.t rfl) (.t rfl) (fun hg => by first | omega | (simp [-List.length_eq_zero_iff] at hg; omega))) ?_
    first | refine At.stRow (k := zK) rfl rfl sz_3 (.t rfl) (.t rfl) rfl (.n U0) (by first | omega | (simp only [List.length_set]; omega)) (by first | omega | (simp only [List.length_append, List.length_cons, List.length_nil, List.length_take, List.length_drop]; omega)) ⟨.all, ?_⟩ | refine At.stRow (k := zK) rfl rfl sz_3 (.t rfl) (.t rfl) rfl (.n U1) (by first | omega | (simp only [List.length_set]; omega)) (by first | omega | (simp only [List.length_append, List.length_cons, List.length_nil, List.length_take, List.length_drop]; omega)) ⟨.all, ?_⟩ | refine At.stRow (k := zK) rfl rfl sz_3 (.t rfl) (.t rfl) rfl (.n U2) (by first | omega | (simp only [List.length_set]; omega)) (by first | omega | (simp only [List.length_append, List.length_cons, List.length_nil, List.length_take, List.length_drop]; omega)) ⟨.all, ?_⟩ | refine At.stRow (k := zK) rfl rfl sz_3 (.t rfl) (.t rfl) rfl (.n U3) (by first | omega | (simp only [List.length_set]; omega)) (by first | omega | (simp only [List.length_append, List.length_cons, List.length_nil, List.length_take, List.length_drop]; omega)) ⟨.all, ?_⟩ | refine At.stRow (k := zK) rfl rfl sz_3 (.t rfl) (.t rfl) rfl (.n U4) (by first | omega | (simp only [List.length_set]; omega)) (by first | omega | (simp only [List.length_append, List.length_cons, List.length_nil, List.length_take, List.length_drop]; omega)) ⟨.all, ?_⟩ | refine At.stRow (k := zK) rfl rfl sz_3 (.t rfl) (.t rfl) rfl (.n U5) (by first | omega | (simp only [List.length_set]; omega)) (by first | omega | (simp only [List.length_append, List.length_cons, List.length_nil, List.length_take, List.length_drop]; omega)) ⟨.all, ?_⟩ | refine At.stRow (k := zK) rfl rfl sz_3 (.t rfl) (.t rfl) rfl (.n U6) (by first | omega | (simp only [List.length_set]; omega)) (by first | omega | (simp only [List.length_append, List.length_cons, List.length_nil, List.length_take, List.length_drop]; omega)) ⟨.all, ?_⟩ | refine At.stRow (k := zK) rfl rfl sz_3 (.t rfl) (.t rfl) rfl (.n U7) (by first | omega | (simp only [List.length_set]; omega)) (by first | omega | (simp only [List.length_append, List.length_cons, List.length_nil, List.length_take, List.length_drop]; omega)) ⟨.all, ?_⟩ | refine At.stRow (k := zK) rfl rfl sz_3 (.t rfl) (.t rfl) rfl (.h U0) (by first | omega | (simp only [List.length_set]; omega)) (by first | omega | (simp only [List.length_append, List.length_cons, List.length_nil, List.length_take, List.length_drop]; omega)) ⟨.all, ?_⟩ | refine At.stRow (k := zK) rfl rfl sz_3 (.t rfl) (.t rfl) rfl (.h U1) (by first | omega | (simp only [List.length_set]; omega)) (by first | omega | (simp only [List.length_append, List.length_cons, List.length_nil, List.length_take, List.length_drop]; omega)) ⟨.all, ?_⟩ | refine At.stRow (k := zK) rfl rfl sz_3 (.t rfl) (.t rfl) rfl (.h U2) (by first | omega | (simp only [List.length_set]; omega)) (by first | omega | (simp only [List.length_append, List.length_cons, List.length_nil, List.length_take, List.length_drop]; omega)) ⟨.all, ?_⟩ | refine At.stRow (k := zK) rfl rfl sz_3 (.t rfl) (.t rfl) rfl (.h U3) (by first | omega | (simp only [List.length_set]; omega)) (by first | omega | (simp only [List.length_append, List.length_cons, List.length_nil, List.length_take, List.length_drop]; omega)) ⟨.all, ?_⟩
    refine At.nil ?_
    refine At.tN ?_
    refine At.seq ?_
    refine At.plain [(false, 0), (false, 1), (false, 2), (false, 3), (false, 4), (false, 5), (false, 6), (false, 7), (false, 8), (false, 9), (false, 10), (false, 11)] rfl ?_
    refine At.e rfl rfl rfl rfl .all (R.move (.t rfl)) ?_
    refine At.e rfl rfl rfl rfl .all (R.move (.t rfl)) ?_
    refine At.e rfl rfl rfl rfl .all (R.move (.t rfl)) ?_
    refine At.e rfl rfl rfl rfl .all (R.move (.t rfl)) ?_
    refine At.e rfl rfl rfl rfl .all (R.move (.t rfl)) ?_
    refine At.e rfl rfl rfl rfl .all (R.move (.t rfl)) ?_
    refine At.e rfl rfl rfl rfl .all (R.move (.t rfl)) ?_
    first | refine At.eF rfl rfl rfl rfl .all ?_ | refine At.e rfl rfl rfl rfl .all (R.move (by first | exact .t rfl | exact .s rfl | exact .i rfl (by simp_all))) ?_
    first | refine At.eF rfl rfl rfl rfl .all ?_ | refine At.e rfl rfl rfl rfl .all (R.eql (by first | exact .t rfl | exact .s rfl | exact .i rfl (by simp_all)) .c) ?_
    first | refine At.e rfl rfl rfl rfl .all (R.pickT (.t rfl) (.t rfl)) ?_ | refine At.e rfl rfl rfl rfl .all (R.pickF (.t rfl) .c) ?_ | refine At.e rfl rfl rfl rfl .all (R.pickAnd (.t rfl) rfl (by first | (intro hg h; rw [h]; rfl) | (intro hg h; rw [hg, h]; rfl) | (simp_all; done) | (simp_all; omega))) ?_
    refine At.e rfl rfl rfl rfl .all (R.build bt_60 (.cons (.t rfl) (.cons (.t rfl) (.cons (.t rfl) (.cons (.t rfl) (.cons (.t rfl) .nil))))) (.cons rfl (.cons rfl (.cons rfl (.cons rfl (.cons rfl .nil))))) rfl) ?_
    refine At.callM (fst := []) (cap := []) rfl rfl rfl Ev.f (.cons (.t rfl) (.cons (.t rfl) .nil)) rfl (.h (.take .nil)) .nil (a_notes1 (a := (⟨a.w.set i.toNat (g (gE a.w i)), a.d0, a.d1, a.d2, a.d3, a.d4, a.k, a.at_, a.old, a.nw, a.ok⟩ : Ar)) hf) rfl .nil ⟨.all, ?_⟩
    refine At.nil ?_
    refine At.tN ?_
    refine At.seq ?_
    refine At.plain [(false, 0), (false, 1), (false, 2), (false, 3)] rfl ?_
    refine At.e rfl rfl rfl rfl .all (R.move (.t rfl)) ?_
    refine At.e rfl rfl rfl rfl .all (R.move (.t rfl)) ?_
    refine At.e rfl rfl rfl rfl .all (R.assign (.t rfl)) ?_
    refine At.e rfl rfl rfl rfl .all (R.assign (.t rfl)) ?_
    refine At.nil ?_
    refine At.tN ?_
    refine At.ret ?_
    exact At.final2 rfl (.t rfl) (.t rfl) (List.nil_sublist _) (⟨by unfold Ar.peek Ar.ran; first | (rw [if_pos hh0, if_pos hh0]; rfl) | (rw [if_pos hh0, if_pos hh0]) | (rw [if_neg hh0, if_neg hh0]), rfl, by unfold Ar.acc Ar.poke; first | (rw [if_pos hh0, if_pos hh0]; rfl) | (rw [if_neg hh0]; rfl)⟩)

theorem a_changes2 {b n : Nat} {wv : Value} {a : Ar} (hn : a.w.length = n) (hN : n ≤ 1000000) (hf : a.few) {f : FuncId} {fst cap : List Value} {bks : List (Nat × Obj)} {g : Int → Int} {okf : Int → Bool} (hfn : ∀ x : Int, Fn Try.prog f (fst ++ [.int .i64 x] ++ cap) (bks.map fun x => .blk x.1 x.2) [] (IsV (.tuple #[.int .i64 (g x), .bool (okf x)]))) {i : Int} : Fn Try.prog 46 [.pointer (some ⟨b, 0, none⟩), .int .i64 2, .int .i64 i, .func (.func f) fst.toArray cap.toArray] (bks.map fun x => .blk x.1 x.2) ([arB b wv a, arW wv n a]) (IsM (.tuple #[.int .i64 (a.peek i), .bool (a.ran i okf)]) [arB b wv (a.acc 2 i g okf), arW wv n (a.acc 2 i g okf)]) := by
  refine Fn.enter Try.func46 (by kernel_rfl) rfl (n := 56) rfl rfl (fun w => ?_)
  refine At.seq ?_
  refine At.plain [(false, 0), (false, 1)] rfl ?_
  refine At.e rfl rfl rfl rfl .all (R.assign .c) ?_
  refine At.e rfl rfl rfl rfl .all (R.assign .c) ?_
  refine At.nil ?_
  refine At.tN ?_
  refine At.seq ?_
  refine At.seq ?_
  refine At.plain [(false, 0), (false, 1), (false, 2), (false, 3)] rfl ?_
  refine At.e rfl rfl rfl rfl .all (R.move (.t rfl)) ?_
  refine At.e rfl rfl rfl rfl .all (R.move (.t rfl)) ?_
  refine At.callVR rfl rfl rfl (.cons (.t rfl) (.cons (.t rfl) .nil)) (.blk (.st (List.mem_append_right _ M0)) (.cons (wS (List.mem_append_right _ M1)) .nil)) (fun hg => a_is hn hN (a := a)) .all ?_
  refine At.e rfl rfl rfl rfl .all (R.not (.t rfl)) ?_
  refine At.nil ?_
  refine At.tN ?_
  first | refine At.condD (.t rfl) (fun c1 => ?_) (fun c1 => ?_) | refine At.condN (.t rfl) (fun c1 => ?_) (fun c1 => ?_) | refine At.cond (.t rfl) (fun c1 => ?_) (fun c1 => ?_)
  · have hh0 : ¬ a.hit i = true := (by simpa using c1)
    refine At.seq ?_
    refine At.plain [(false, 0), (false, 1), (false, 2), (false, 3), (false, 4)] rfl ?_
    refine At.e rfl rfl rfl rfl .all (R.move (.t rfl)) ?_
    refine At.e rfl rfl rfl rfl .all (R.move (.t rfl)) ?_
    refine At.e rfl rfl rfl rfl .all (R.move (.t rfl)) ?_
    refine At.e rfl rfl rfl rfl .all (R.build bt_60 (.cons (.t rfl) (.cons (.t rfl) .nil)) (.cons rfl (.cons rfl .nil)) rfl) ?_
    refine At.callM (fst := []) (cap := []) rfl rfl rfl Ev.f (.cons (.t rfl) (.cons (.t rfl) .nil)) rfl (.h (.take .nil)) .nil (a_notes2 (a := a) hf) rfl .nil ⟨.all, ?_⟩
    refine At.nil ?_
    refine At.tN ?_
    refine At.seq ?_
    refine At.plain [(false, 0), (false, 1)] rfl ?_
    refine At.e rfl rfl rfl rfl .all (R.assign .c) ?_
    refine At.e rfl rfl rfl rfl .all (R.assign .c) ?_
    refine At.nil ?_
    refine At.tN ?_
    refine At.ret ?_
    refine At.tR ?_
    exact At.final2 rfl (.t rfl) (.t rfl) (List.nil_sublist _) (⟨by unfold Ar.peek Ar.ran; first | (rw [if_pos hh0, if_pos hh0]; rfl) | (rw [if_pos hh0, if_pos hh0]) | (rw [if_neg hh0, if_neg hh0]), rfl, by unfold Ar.acc Ar.poke; first | (rw [if_pos hh0, if_pos hh0]; rfl) | (rw [if_neg hh0]; rfl)⟩)
  · have hh0 : a.hit i = true := (by simpa using c1); have hh := Ar.hit_yes hh0; refine At.rowForm (v := wv) (List.mem_append_right _ M1) (by omega) (fun gg cap2 hv => ?_); subst hv
    refine At.skip ?_
    refine At.tN ?_
    refine At.seq ?_
    refine At.plain [(false, 0), (false, 1), (false, 2), (false, 3), (false, 4), (false, 5), (false, 6), (false, 7)] rfl ?_
    refine At.e rfl rfl rfl rfl .all (R.move (.t rfl)) ?_
    refine At.e rfl rfl rfl rfl .all (R.nilCheckP (.t rfl)) ?_
    first | refine At.e rfl rfl rfl rfl .all (R.fieldAddr fo_62_0 (.t rfl)) ?_ | refine At.e rfl rfl rfl rfl .all (R.fieldRd fo_62_0 (.t rfl) (by first | exact nestS hG (by first | omega | (simp [-List.length_eq_zero_iff] at hg; omega)) | exact rS M0 | exact wS M0 | exact rS M1 | exact wS M1 | exact rS M2 | exact wS M2 | exact rS M3 | exact wS M3 | exact rS M4 | exact wS M4 | exact rS M5 | exact wS M5 | exact rS M6 | exact wS M6 | exact rS M7 | exact wS M7 | exact rS M8 | exact wS M8 | exact rS M9 | exact wS M9 | exact rN M0 | exact wN M0 | exact rN M1 | exact wN M1 | exact rN M2 | exact wN M2 | exact rN M3 | exact wN M3 | exact RdIn.nil) (fun hg => (by first | omega | ((simp [-List.length_eq_zero_iff] at hg; omega)) | (simp only [List.length_append, List.length_cons, List.length_nil, List.length_take, List.length_drop]; omega)))) ?_
    refine At.e rfl rfl rfl rfl .all (R.load Try.underlying57 rfl (.t rfl) (by first | exact cS M0 rfl | exact cS M1 rfl | exact cS M2 rfl | exact cS M3 rfl | exact cS M4 rfl | exact cS M5 rfl | exact cS M6 rfl | exact cS M7 rfl | exact cN M0 rfl | exact cN M1 rfl | exact cN M2 rfl | exact cN M3 rfl | exact cN M4 rfl)) ?_
    refine At.e rfl rfl rfl rfl .all (R.move (.t rfl)) ?_
    first | refine At.e rfl rfl rfl rfl .all (R.indexRd Try.underlying57 sz_3 (.t rfl) (by first | exact nestS hG (by first | omega | (simp [-List.length_eq_zero_iff] at hg; omega)) | exact rS M0 | exact wS M0 | exact rS M1 | exact wS M1 | exact rS M2 | exact wS M2 | exact rS M3 | exact wS M3 | exact rS M4 | exact wS M4 | exact rS M5 | exact wS M5 | exact rS M6 | exact wS M6 | exact rS M7 | exact wS M7 | exact rS M8 | exact wS M8 | exact rS M9 | exact wS M9 | exact rN M0 | exact wN M0 | exact rN M1 | exact wN M1 | exact rN M2 | exact wN M2 | exact rN M3 | exact wN M3 | exact RdIn.nil) (.t rfl) (fun hg => (by first | omega | ((simp [-List.length_eq_zero_iff] at hg; omega)) | (simp only [List.length_append, List.length_cons, List.length_nil, List.length_take, List.length_drop]; omega)))) ?_ | refine At.e rfl rfl rfl rfl .all (R.indexSlE Try.underlying57 sz_3 (.t rfl) (.t rfl) (fun hg => by first | omega | (simp [-List.length_eq_zero_iff] at hg; omega))) ?_
    first | refine At.e rfl rfl rfl rfl .all (R.loadRd Try.underlying3 rfl (.t rfl) (by first | exact nestS hG (by first | omega | (simp [-List.length_eq_zero_iff] at hg; omega)) | exact rS M0 | exact wS M0 | exact rS M1 | exact wS M1 | exact rS M2 | exact wS M2 | exact rS M3 | exact wS M3 | exact rS M4 | exact wS M4 | exact rS M5 | exact wS M5 | exact rS M6 | exact wS M6 | exact rS M7 | exact wS M7 | exact rS M8 | exact wS M8 | exact rS M9 | exact wS M9 | exact rN M0 | exact wN M0 | exact rN M1 | exact wN M1 | exact rN M2 | exact wN M2 | exact rN M3 | exact wN M3 | exact RdIn.nil) (fun hg => by exact nestGet (by first | omega | ((simp [-List.length_eq_zero_iff] at hg; omega)) | (simp only [List.length_append, List.length_cons, List.length_nil, List.length_take, List.length_drop]; omega)))) ?_ | refine At.e rfl rfl rfl rfl .all (R.loadRd Try.underlying3 rfl (.t rfl) (by first | exact nestS hG (by first | omega | (simp [-List.length_eq_zero_iff] at hg; omega)) | exact rS M0 | exact wS M0 | exact rS M1 | exact wS M1 | exact rS M2 | exact wS M2 | exact rS M3 | exact wS M3 | exact rS M4 | exact wS M4 | exact rS M5 | exact wS M5 | exact rS M6 | exact wS M6 | exact rS M7 | exact wS M7 | exact rS M8 | exact wS M8 | exact rS M9 | exact wS M9 | exact rN M0 | exact wN M0 | exact rN M1 | exact wN M1 | exact rN M2 | exact wN M2 | exact rN M3 | exact wN M3 | exact RdIn.nil) (fun hg => by exact Ek.getN rfl (by first | omega | ((simp [-List.length_eq_zero_iff] at hg; omega)) | (simp only [List.length_append, List.length_cons, List.length_nil, List.length_take, List.length_drop]; omega)))) ?_ | refine At.e rfl rfl rfl rfl .all (R.loadRd Try.underlying3 rfl (.t rfl) (by first | exact nestS hG (by first | omega | (simp [-List.length_eq_zero_iff] at hg; omega)) | exact rS M0 | exact wS M0 | exact rS M1 | exact wS M1 | exact rS M2 | exact wS M2 | exact rS M3 | exact wS M3 | exact rS M4 | exact wS M4 | exact rS M5 | exact wS M5 | exact rS M6 | exact wS M6 | exact rS M7 | exact wS M7 | exact rS M8 | exact wS M8 | exact rS M9 | exact wS M9 | exact rN M0 | exact wN M0 | exact rN M1 | exact wN M1 | exact rN M2 | exact wN M2 | exact rN M3 | exact wN M3 | exact RdIn.nil) (fun hg => by exact Ek.get0 rfl (by first | omega | ((simp [-List.length_eq_zero_iff] at hg; omega)) | (simp only [List.length_append, List.length_cons, List.length_nil, List.length_take, List.length_drop]; omega)))) ?_
    refine At.e rfl rfl rfl rfl .all (R.assign (.t rfl)) ?_
    refine At.nil ?_
    refine At.tN ?_
    refine At.seq ?_
    refine At.plain [(false, 0), (false, 1), (false, 2), (false, 3), (false, 4), (false, 5), (false, 6), (false, 7)] rfl ?_
    refine At.e rfl rfl rfl rfl .all (R.move (.t rfl)) ?_
    refine At.e rfl rfl rfl rfl .all (R.move (.t rfl)) ?_
    refine At.callVF (fst := fst) (cap := cap) rfl rfl rfl (.t rfl) (.cons (.t rfl) .nil) rfl (Rds.blks (fun x hx => .st (List.mem_append_left _ (List.mem_map.2 ⟨x, hx, rfl⟩)))) (fun hg => hfn (gE a.w i)) .all ?_
    refine At.e rfl rfl rfl rfl .all (R.move (.t rfl)) ?_
    refine At.e rfl rfl rfl rfl .all (R.extract (.t rfl) rfl) ?_
    refine At.e rfl rfl rfl rfl .all (R.extract (.t rfl) rfl) ?_
    refine At.e rfl rfl rfl rfl .all (R.assign (.t rfl)) ?_
    refine At.e rfl rfl rfl rfl .all (R.assign (.t rfl)) ?_
    refine At.nil ?_
    refine At.tN ?_
    refine At.seq ?_
    refine At.plain [(false, 0), (false, 1), (false, 2), (false, 3), (false, 4), (false, 5), (false, 6), (false, 7)] rfl ?_
    refine At.e rfl rfl rfl rfl .all (R.move (.t rfl)) ?_
    refine At.e rfl rfl rfl rfl .all (R.nilCheckP (.t rfl)) ?_
    first | refine At.e rfl rfl rfl rfl .all (R.fieldAddr fo_62_0 (.t rfl)) ?_ | refine At.e rfl rfl rfl rfl .all (R.fieldRd fo_62_0 (.t rfl) (by first | exact nestS hG (by first | omega | (simp [-List.length_eq_zero_iff] at hg; omega)) | exact rS M0 | exact wS M0 | exact rS M1 | exact wS M1 | exact rS M2 | exact wS M2 | exact rS M3 | exact wS M3 | exact rS M4 | exact wS M4 | exact rS M5 | exact wS M5 | exact rS M6 | exact wS M6 | exact rS M7 | exact wS M7 | exact rS M8 | exact wS M8 | exact rS M9 | exact wS M9 | exact rN M0 | exact wN M0 | exact rN M1 | exact wN M1 | exact rN M2 | exact wN M2 | exact rN M3 | exact wN M3 | exact RdIn.nil) (fun hg => (by first | omega | ((simp [-List.length_eq_zero_iff] at hg; omega)) | (simp only [List.length_append, List.length_cons, List.length_nil, List.length_take, List.length_drop]; omega)))) ?_
    refine At.e rfl rfl rfl rfl .all (R.load Try.underlying57 rfl (.t rfl) (by first | exact cS M0 rfl | exact cS M1 rfl | exact cS M2 rfl | exact cS M3 rfl | exact cS M4 rfl | exact cS M5 rfl | exact cS M6 rfl | exact cS M7 rfl | exact cN M0 rfl | exact cN M1 rfl | exact cN M2 rfl | exact cN M3 rfl | exact cN M4 rfl)) ?_
    refine At.e rfl rfl rfl rfl .all (R.move (.t rfl)) ?_
    refine At.e rfl rfl rfl rfl .all (R.move (.t rfl)) ?_
    first | refine At.e rfl rfl rfl rfl .all (R.indexRd Try.underlying57 sz_3 (.t rfl) (by first | exact nestS hG (by first | omega | (simp [-List.length_eq_zero_iff] at hg; omega)) | exact rS M0 | exact wS M0 | exact rS M1 | exact wS M1 | exact rS M2 | exact wS M2 | exact rS M3 | exact wS M3 | exact rS M4 | exact wS M4 | exact rS M5 | exact wS M5 | exact rS M6 | exact wS M6 | exact rS M7 | exact wS M7 | exact rS M8 | exact wS M8 | exact rS M9 | exact wS M9 | exact rN M0 | exact wN M0 | exact rN M1 | exact wN M1 | exact rN M2 | exact wN M2 | exact rN M3 | exact wN M3 | exact RdIn.nil) (.t rfl) (fun hg => (by first | omega | ((simp [-List.length_eq_zero_iff] at hg; omega)) | (simp only [List.length_append, List.length_cons, List.length_nil, List.length_take, List.length_drop]; omega)))) ?_ | refine At.e rfl rfl rfl rfl .all (R.indexSlE Try.underlying57 sz_3 (.t rfl) (.t rfl) (fun hg => by first | omega | (simp [-List.length_eq_zero_iff] at hg; omega))) ?_
    first | refine At.stRow (k := zK) rfl rfl sz_3 (.t rfl) (.t rfl) rfl (.n U0) (by first | omega | (simp only [List.length_set]; omega)) (by first | omega | (simp only [List.length_append, List.length_cons, List.length_nil, List.length_take, List.length_drop]; omega)) ⟨.all, ?_⟩ | refine At.stRow (k := zK) rfl rfl sz_3 (.t rfl) (.t rfl) rfl (.n U1) (by first | omega | (simp only [List.length_set]; omega)) (by first | omega | (simp only [List.length_append, List.length_cons, List.length_nil, List.length_take, List.length_drop]; omega)) ⟨.all, ?_⟩ | refine At.stRow (k := zK) rfl rfl sz_3 (.t rfl) (.t rfl) rfl (.n U2) (by first | omega | (simp only [List.length_set]; omega)) (by first | omega | (simp only [List.length_append, List.length_cons, List.length_nil, List.length_take, List.length_drop]; omega)) ⟨.all, ?_⟩ | refine At.stRow (k := zK) rfl rfl sz_3 (.t rfl) (.t rfl) rfl (.n U3) (by first | omega | (simp only [List.length_set]; omega)) (by first | omega | (simp only [List.length_append, List.length_cons, List.length_nil, List.length_take, List.length_drop]; omega)) ⟨.all, ?_⟩ | refine At.stRow (k := zK) rfl rfl sz_3 (.t rfl) (.t rfl) rfl (.n U4) (by first | omega | (simp only [List.length_set]; omega)) (by first | omega | (simp only [List.length_append, List.length_cons, List.length_nil, List.length_take, List.length_drop]; omega)) ⟨.all, ?_⟩ | refine At.stRow (k := zK) rfl rfl sz_3 (.t rfl) (.t rfl) rfl (.n U5) (by first | omega | (simp only [List.length_set]; omega)) (by first | omega | (simp only [List.length_append, List.length_cons, List.length_nil, List.length_take, List.length_drop]; omega)) ⟨.all, ?_⟩ | refine At.stRow (k := zK) rfl rfl sz_3 (.t rfl) (.t rfl) rfl (.n U6) (by first | omega | (simp only [List.length_set]; omega)) (by first | omega | (simp only [List.length_append, List.length_cons, List.length_nil, List.length_take, List.length_drop]; omega)) ⟨.all, ?_⟩ | refine At.stRow (k := zK) rfl rfl sz_3 (.t rfl) (.t rfl) rfl (.n U7) (by first | omega | (simp only [List.length_set]; omega)) (by first | omega | (simp only [List.length_append, List.length_cons, List.length_nil, List.length_take, List.length_drop]; omega)) ⟨.all, ?_⟩ | refine At.stRow (k := zK) rfl rfl sz_3 (.t rfl) (.t rfl) rfl (.h U0) (by first | omega | (simp only [List.length_set]; omega)) (by first | omega | (simp only [List.length_append, List.length_cons, List.length_nil, List.length_take, List.length_drop]; omega)) ⟨.all, ?_⟩ | refine At.stRow (k := zK) rfl rfl sz_3 (.t rfl) (.t rfl) rfl (.h U1) (by first | omega | (simp only [List.length_set]; omega)) (by first | omega | (simp only [List.length_append, List.length_cons, List.length_nil, List.length_take, List.length_drop]; omega)) ⟨.all, ?_⟩ | refine At.stRow (k := zK) rfl rfl sz_3 (.t rfl) (.t rfl) rfl (.h U2) (by first | omega | (simp only [List.length_set]; omega)) (by first | omega | (simp only [List.length_append, List.length_cons, List.length_nil, List.length_take, List.length_drop]; omega)) ⟨.all, ?_⟩ | refine At.stRow (k := zK) rfl rfl sz_3 (.t rfl) (.t rfl) rfl (.h U3) (by first | omega | (simp only [List.length_set]; omega)) (by first | omega | (simp only [List.length_append, List.length_cons, List.length_nil, List.length_take, List.length_drop]; omega)) ⟨.all, ?_⟩
    refine At.nil ?_
    refine At.tN ?_
    refine At.seq ?_
    refine At.plain [(false, 0), (false, 1), (false, 2), (false, 3), (false, 4), (false, 5), (false, 6), (false, 7), (false, 8), (false, 9), (false, 10), (false, 11)] rfl ?_
    refine At.e rfl rfl rfl rfl .all (R.move (.t rfl)) ?_
    refine At.e rfl rfl rfl rfl .all (R.move (.t rfl)) ?_
    refine At.e rfl rfl rfl rfl .all (R.move (.t rfl)) ?_
    refine At.e rfl rfl rfl rfl .all (R.move (.t rfl)) ?_
    refine At.e rfl rfl rfl rfl .all (R.move (.t rfl)) ?_
    refine At.e rfl rfl rfl rfl .all (R.move (.t rfl)) ?_
    refine At.e rfl rfl rfl rfl .all (R.move (.t rfl)) ?_
    first | refine At.eF rfl rfl rfl rfl .all ?_ | refine At.e rfl rfl rfl rfl .all (R.move (by first | exact .t rfl | exact .s rfl | exact .i rfl (by simp_all))) ?_
    first | refine At.eF rfl rfl rfl rfl .all ?_ | refine At.e rfl rfl rfl rfl .all (R.eql (by first | exact .t rfl | exact .s rfl | exact .i rfl (by simp_all)) .c) ?_
    first | refine At.e rfl rfl rfl rfl .all (R.pickT (.t rfl) (.t rfl)) ?_ | refine At.e rfl rfl rfl rfl .all (R.pickF (.t rfl) .c) ?_ | refine At.e rfl rfl rfl rfl .all (R.pickAnd (.t rfl) rfl (by first | (intro hg h; rw [h]; rfl) | (intro hg h; rw [hg, h]; rfl) | (simp_all; done) | (simp_all; omega))) ?_
    refine At.e rfl rfl rfl rfl .all (R.build bt_60 (.cons (.t rfl) (.cons (.t rfl) (.cons (.t rfl) (.cons (.t rfl) (.cons (.t rfl) .nil))))) (.cons rfl (.cons rfl (.cons rfl (.cons rfl (.cons rfl .nil))))) rfl) ?_
    refine At.callM (fst := []) (cap := []) rfl rfl rfl Ev.f (.cons (.t rfl) (.cons (.t rfl) .nil)) rfl (.h (.take .nil)) .nil (a_notes2 (a := (⟨a.w.set i.toNat (g (gE a.w i)), a.d0, a.d1, a.d2, a.d3, a.d4, a.k, a.at_, a.old, a.nw, a.ok⟩ : Ar)) hf) rfl .nil ⟨.all, ?_⟩
    refine At.nil ?_
    refine At.tN ?_
    refine At.seq ?_
    refine At.plain [(false, 0), (false, 1), (false, 2), (false, 3)] rfl ?_
    refine At.e rfl rfl rfl rfl .all (R.move (.t rfl)) ?_
    refine At.e rfl rfl rfl rfl .all (R.move (.t rfl)) ?_
    refine At.e rfl rfl rfl rfl .all (R.assign (.t rfl)) ?_
    refine At.e rfl rfl rfl rfl .all (R.assign (.t rfl)) ?_
    refine At.nil ?_
    refine At.tN ?_
    refine At.ret ?_
    exact At.final2 rfl (.t rfl) (.t rfl) (List.nil_sublist _) (⟨by unfold Ar.peek Ar.ran; first | (rw [if_pos hh0, if_pos hh0]; rfl) | (rw [if_pos hh0, if_pos hh0]) | (rw [if_neg hh0, if_neg hh0]), rfl, by unfold Ar.acc Ar.poke; first | (rw [if_pos hh0, if_pos hh0]; rfl) | (rw [if_neg hh0]; rfl)⟩)

theorem a_changes3 {b n : Nat} {wv : Value} {a : Ar} (hn : a.w.length = n) (hN : n ≤ 1000000) (hf : a.few) {f : FuncId} {fst cap : List Value} {bks : List (Nat × Obj)} {g : Int → Int} {okf : Int → Bool} (hfn : ∀ x : Int, Fn Try.prog f (fst ++ [.int .i64 x] ++ cap) (bks.map fun x => .blk x.1 x.2) [] (IsV (.tuple #[.int .i64 (g x), .bool (okf x)]))) {i : Int} : Fn Try.prog 46 [.pointer (some ⟨b, 0, none⟩), .int .i64 3, .int .i64 i, .func (.func f) fst.toArray cap.toArray] (bks.map fun x => .blk x.1 x.2) ([arB b wv a, arW wv n a]) (IsM (.tuple #[.int .i64 (a.peek i), .bool (a.ran i okf)]) [arB b wv (a.acc 3 i g okf), arW wv n (a.acc 3 i g okf)]) := by
  refine Fn.enter Try.func46 (by kernel_rfl) rfl (n := 56) rfl rfl (fun w => ?_)
  refine At.seq ?_
  refine At.plain [(false, 0), (false, 1)] rfl ?_
  refine At.e rfl rfl rfl rfl .all (R.assign .c) ?_
  refine At.e rfl rfl rfl rfl .all (R.assign .c) ?_
  refine At.nil ?_
  refine At.tN ?_
  refine At.seq ?_
  refine At.seq ?_
  refine At.plain [(false, 0), (false, 1), (false, 2), (false, 3)] rfl ?_
  refine At.e rfl rfl rfl rfl .all (R.move (.t rfl)) ?_
  refine At.e rfl rfl rfl rfl .all (R.move (.t rfl)) ?_
  refine At.callVR rfl rfl rfl (.cons (.t rfl) (.cons (.t rfl) .nil)) (.blk (.st (List.mem_append_right _ M0)) (.cons (wS (List.mem_append_right _ M1)) .nil)) (fun hg => a_is hn hN (a := a)) .all ?_
  refine At.e rfl rfl rfl rfl .all (R.not (.t rfl)) ?_
  refine At.nil ?_
  refine At.tN ?_
  first | refine At.condD (.t rfl) (fun c1 => ?_) (fun c1 => ?_) | refine At.condN (.t rfl) (fun c1 => ?_) (fun c1 => ?_) | refine At.cond (.t rfl) (fun c1 => ?_) (fun c1 => ?_)
  · have hh0 : ¬ a.hit i = true := (by simpa using c1)
    refine At.seq ?_
    refine At.plain [(false, 0), (false, 1), (false, 2), (false, 3), (false, 4)] rfl ?_
    refine At.e rfl rfl rfl rfl .all (R.move (.t rfl)) ?_
    refine At.e rfl rfl rfl rfl .all (R.move (.t rfl)) ?_
    refine At.e rfl rfl rfl rfl .all (R.move (.t rfl)) ?_
    refine At.e rfl rfl rfl rfl .all (R.build bt_60 (.cons (.t rfl) (.cons (.t rfl) .nil)) (.cons rfl (.cons rfl .nil)) rfl) ?_
    refine At.callM (fst := []) (cap := []) rfl rfl rfl Ev.f (.cons (.t rfl) (.cons (.t rfl) .nil)) rfl (.h (.take .nil)) .nil (a_notes3 (a := a) hf) rfl .nil ⟨.all, ?_⟩
    refine At.nil ?_
    refine At.tN ?_
    refine At.seq ?_
    refine At.plain [(false, 0), (false, 1)] rfl ?_
    refine At.e rfl rfl rfl rfl .all (R.assign .c) ?_
    refine At.e rfl rfl rfl rfl .all (R.assign .c) ?_
    refine At.nil ?_
    refine At.tN ?_
    refine At.ret ?_
    refine At.tR ?_
    exact At.final2 rfl (.t rfl) (.t rfl) (List.nil_sublist _) (⟨by unfold Ar.peek Ar.ran; first | (rw [if_pos hh0, if_pos hh0]; rfl) | (rw [if_pos hh0, if_pos hh0]) | (rw [if_neg hh0, if_neg hh0]), rfl, by unfold Ar.acc Ar.poke; first | (rw [if_pos hh0, if_pos hh0]; rfl) | (rw [if_neg hh0]; rfl)⟩)
  · have hh0 : a.hit i = true := (by simpa using c1); have hh := Ar.hit_yes hh0; refine At.rowForm (v := wv) (List.mem_append_right _ M1) (by omega) (fun gg cap2 hv => ?_); subst hv
    refine At.skip ?_
    refine At.tN ?_
    refine At.seq ?_
    refine At.plain [(false, 0), (false, 1), (false, 2), (false, 3), (false, 4), (false, 5), (false, 6), (false, 7)] rfl ?_
    refine At.e rfl rfl rfl rfl .all (R.move (.t rfl)) ?_
    refine At.e rfl rfl rfl rfl .all (R.nilCheckP (.t rfl)) ?_
    first | refine At.e rfl rfl rfl rfl .all (R.fieldAddr fo_62_0 (.t rfl)) ?_ | refine At.e rfl rfl rfl rfl .all (R.fieldRd fo_62_0 (.t rfl) (by first | exact nestS hG (by first | omega | (simp [-List.length_eq_zero_iff] at hg; omega)) | exact rS M0 | exact wS M0 | exact rS M1 | exact wS M1 | exact rS M2 | exact wS M2 | exact rS M3 | exact wS M3 | exact rS M4 | exact wS M4 | exact rS M5 | exact wS M5 | exact rS M6 | exact wS M6 | exact rS M7 | exact wS M7 | exact rS M8 | exact wS M8 | exact rS M9 | exact wS M9 | exact rN M0 | exact wN M0 | exact rN M1 | exact wN M1 | exact rN M2 | exact wN M2 | exact rN M3 | exact wN M3 | exact RdIn.nil) (fun hg => (by first | omega | ((simp [-List.length_eq_zero_iff] at hg; omega)) | (simp only [List.length_append, List.length_cons, List.length_nil, List.length_take, List.length_drop]; omega)))) ?_
    refine At.e rfl rfl rfl rfl .all (R.load Try.underlying57 rfl (.t rfl) (by first | exact cS M0 rfl | exact cS M1 rfl | exact cS M2 rfl | exact cS M3 rfl | exact cS M4 rfl | exact cS M5 rfl | exact cS M6 rfl | exact cS M7 rfl | exact cN M0 rfl | exact cN M1 rfl | exact cN M2 rfl | exact cN M3 rfl | exact cN M4 rfl)) ?_
    refine At.e rfl rfl rfl rfl .all (R.move (.t rfl)) ?_
    first | refine At.e rfl rfl rfl rfl .all (R.indexRd Try.underlying57 sz_3 (.t rfl) (by first | exact nestS hG (by first | omega | (simp [-List.length_eq_zero_iff] at hg; omega)) | exact rS M0 | exact wS M0 | exact rS M1 | exact wS M1 | exact rS M2 | exact wS M2 | exact rS M3 | exact wS M3 | exact rS M4 | exact wS M4 | exact rS M5 | exact wS M5 | exact rS M6 | exact wS M6 | exact rS M7 | exact wS M7 | exact rS M8 | exact wS M8 | exact rS M9 | exact wS M9 | exact rN M0 | exact wN M0 | exact rN M1 | exact wN M1 | exact rN M2 | exact wN M2 | exact rN M3 | exact wN M3 | exact RdIn.nil) (.t rfl) (fun hg => (by first | omega | ((simp [-List.length_eq_zero_iff] at hg; omega)) | (simp only [List.length_append, List.length_cons, List.length_nil, List.length_take, List.length_drop]; omega)))) ?_ | refine At.e rfl rfl rfl rfl .all (R.indexSlE Try.underlying57 sz_3 (.t rfl) (.t rfl) (fun hg => by first | omega | (simp [-List.length_eq_zero_iff] at hg; omega))) ?_
    first | refine At.e rfl rfl rfl rfl .all (R.loadRd Try.underlying3 rfl (.t rfl) (by first | exact nestS hG (by first | omega | (simp [-List.length_eq_zero_iff] at hg; omega)) | exact rS M0 | exact wS M0 | exact rS M1 | exact wS M1 | exact rS M2 | exact wS M2 | exact rS M3 | exact wS M3 | exact rS M4 | exact wS M4 | exact rS M5 | exact wS M5 | exact rS M6 | exact wS M6 | exact rS M7 | exact wS M7 | exact rS M8 | exact wS M8 | exact rS M9 | exact wS M9 | exact rN M0 | exact wN M0 | exact rN M1 | exact wN M1 | exact rN M2 | exact wN M2 | exact rN M3 | exact wN M3 | exact RdIn.nil) (fun hg => by exact nestGet (by first | omega | ((simp [-List.length_eq_zero_iff] at hg; omega)) | (simp only [List.length_append, List.length_cons, List.length_nil, List.length_take, List.length_drop]; omega)))) ?_ | refine At.e rfl rfl rfl rfl .all (R.loadRd Try.underlying3 rfl (.t rfl) (by first | exact nestS hG (by first | omega | (simp [-List.length_eq_zero_iff] at hg; omega)) | exact rS M0 | exact wS M0 | exact rS M1 | exact wS M1 | exact rS M2 | exact wS M2 | exact rS M3 | exact wS M3 | exact rS M4 | exact wS M4 | exact rS M5 | exact wS M5 | exact rS M6 | exact wS M6 | exact rS M7 | exact wS M7 | exact rS M8 | exact wS M8 | exact rS M9 | exact wS M9 | exact rN M0 | exact wN M0 | exact rN M1 | exact wN M1 | exact rN M2 | exact wN M2 | exact rN M3 | exact wN M3 | exact RdIn.nil) (fun hg => by exact Ek.getN rfl (by first | omega | ((simp [-List.length_eq_zero_iff] at hg; omega)) | (simp only [List.length_append, List.length_cons, List.length_nil, List.length_take, List.length_drop]; omega)))) ?_ | refine At.e rfl rfl rfl rfl .all (R.loadRd Try.underlying3 rfl (.t rfl) (by first | exact nestS hG (by first | omega | (simp [-List.length_eq_zero_iff] at hg; omega)) | exact rS M0 | exact wS M0 | exact rS M1 | exact wS M1 | exact rS M2 | exact wS M2 | exact rS M3 | exact wS M3 | exact rS M4 | exact wS M4 | exact rS M5 | exact wS M5 | exact rS M6 | exact wS M6 | exact rS M7 | exact wS M7 | exact rS M8 | exact wS M8 | exact rS M9 | exact wS M9 | exact rN M0 | exact wN M0 | exact rN M1 | exact wN M1 | exact rN M2 | exact wN M2 | exact rN M3 | exact wN M3 | exact RdIn.nil) (fun hg => by exact Ek.get0 rfl (by first | omega | ((simp [-List.length_eq_zero_iff] at hg; omega)) | (simp only [List.length_append, List.length_cons, List.length_nil, List.length_take, List.length_drop]; omega)))) ?_
    refine At.e rfl rfl rfl rfl .all (R.assign (.t rfl)) ?_
    refine At.nil ?_
    refine At.tN ?_
    refine At.seq ?_
    refine At.plain [(false, 0), (false, 1), (false, 2), (false, 3), (false, 4), (false, 5), (false, 6), (false, 7)] rfl ?_
    refine At.e rfl rfl rfl rfl .all (R.move (.t rfl)) ?_
    refine At.e rfl rfl rfl rfl .all (R.move (.t rfl)) ?_
    refine At.callVF (fst := fst) (cap := cap) rfl rfl rfl (.t rfl) (.cons (.t rfl) .nil) rfl (Rds.blks (fun x hx => .st (List.mem_append_left _ (List.mem_map.2 ⟨x, hx, rfl⟩)))) (fun hg => hfn (gE a.w i)) .all ?_
    refine At.e rfl rfl rfl rfl .all (R.move (.t rfl)) ?_
    refine At.e rfl rfl rfl rfl .all (R.extract (.t rfl) rfl) ?_
    refine At.e rfl rfl rfl rfl .all (R.extract (.t rfl) rfl) ?_
    refine At.e rfl rfl rfl rfl .all (R.assign (.t rfl)) ?_
    refine At.e rfl rfl rfl rfl .all (R.assign (.t rfl)) ?_
    refine At.nil ?_
    refine At.tN ?_
    refine At.seq ?_
    refine At.plain [(false, 0), (false, 1), (false, 2), (false, 3), (false, 4), (false, 5), (false, 6), (false, 7)] rfl ?_
    refine At.e rfl rfl rfl rfl .all (R.move (.t rfl)) ?_
    refine At.e rfl rfl rfl rfl .all (R.nilCheckP (.t rfl)) ?_
    first | refine At.e rfl rfl rfl rfl .all (R.fieldAddr fo_62_0 (.t rfl)) ?_ | refine At.e rfl rfl rfl rfl .all (R.fieldRd fo_62_0 (.t rfl) (by first | exact nestS hG (by first | omega | (simp [-List.length_eq_zero_iff] at hg; omega)) | exact rS M0 | exact wS M0 | exact rS M1 | exact wS M1 | exact rS M2 | exact wS M2 | exact rS M3 | exact wS M3 | exact rS M4 | exact wS M4 | exact rS M5 | exact wS M5 | exact rS M6 | exact wS M6 | exact rS M7 | exact wS M7 | exact rS M8 | exact wS M8 | exact rS M9 | exact wS M9 | exact rN M0 | exact wN M0 | exact rN M1 | exact wN M1 | exact rN M2 | exact wN M2 | exact rN M3 | exact wN M3 | exact RdIn.nil) (fun hg => (by first | omega | ((simp [-List.length_eq_zero_iff] at hg; omega)) | (simp only [List.length_append, List.length_cons, List.length_nil, List.length_take, List.length_drop]; omega)))) ?_
    refine At.e rfl rfl rfl rfl .all (R.load Try.underlying57 rfl (.t rfl) (by first | exact cS M0 rfl | exact cS M1 rfl | exact cS M2 rfl | exact cS M3 rfl | exact cS M4 rfl | exact cS M5 rfl | exact cS M6 rfl | exact cS M7 rfl | exact cN M0 rfl | exact cN M1 rfl | exact cN M2 rfl | exact cN M3 rfl | exact cN M4 rfl)) ?_
    refine At.e rfl rfl rfl rfl .all (R.move (.t rfl)) ?_
    refine At.e rfl rfl rfl rfl .all (R.move (.t rfl)) ?_
    first | refine At.e rfl rfl rfl rfl .all (R.indexRd Try.underlying57 sz_3 (.t rfl) (by first | exact nestS hG (by first | omega | (simp [-List.length_eq_zero_iff] at hg; omega)) | exact rS M0 | exact wS M0 | exact rS M1 | exact wS M1 | exact rS M2 | exact wS M2 | exact rS M3 | exact wS M3 | exact rS M4 | exact wS M4 | exact rS M5 | exact wS M5 | exact rS M6 | exact wS M6 | exact rS M7 | exact wS M7 | exact rS M8 | exact wS M8 | exact rS M9 | exact wS M9 | exact rN M0 | exact wN M0 | exact rN M1 | exact wN M1 | exact rN M2 | exact wN M2 | exact rN M3 | exact wN M3 | exact RdIn.nil) (.t rfl) (fun hg => (by first | omega | ((simp [-List.length_eq_zero_iff] at hg; omega)) | (simp only [List.length_append, List.length_cons, List.length_nil, List.length_take, List.length_drop]; omega)))) ?_ | refine At.e rfl rfl rfl rfl .all (R.indexSlE Try.underlying57 sz_3 (.t rfl) (.t rfl) (fun hg => by first | omega | (simp [-List.length_eq_zero_iff] at hg; omega))) ?_
    first | refine At.stRow (k := zK) rfl rfl sz_3 (.t rfl) (.t rfl) rfl (.n U0) (by first | omega | (simp only [List.length_set]; omega)) (by first | omega | (simp only [List.length_append, List.length_cons, List.length_nil, List.length_take, List.length_drop]; omega)) ⟨.all, ?_⟩ | refine At.stRow (k := zK) rfl rfl sz_3 (.t rfl) (.t rfl) rfl (.n U1) (by first | omega | (simp only [List.length_set]; omega)) (by first | omega | (simp only [List.length_append, List.length_cons, List.length_nil, List.length_take, List.length_drop]; omega)) ⟨.all, ?_⟩ | refine At.stRow (k := zK) rfl rfl sz_3 (.t rfl) (.t rfl) rfl (.n U2) (by first | omega | (simp only [List.length_set]; omega)) (by first | omega | (simp only [List.length_append, List.length_cons, List.length_nil, List.length_take, List.length_drop]; omega)) ⟨.all, ?_⟩ | refine At.stRow (k := zK) rfl rfl sz_3 (.t rfl) (.t rfl) rfl (.n U3) (by first | omega | (simp only [List.length_set]; omega)) (by first | omega | (simp only [List.length_append, List.length_cons, List.length_nil, List.length_take, List.length_drop]; omega)) ⟨.all, ?_⟩ | refine At.stRow (k := zK) rfl rfl sz_3 (.t rfl) (.t rfl) rfl (.n U4) (by first | omega | (simp only [List.length_set]; omega)) (by first | omega | (simp only [List.length_append, List.length_cons, List.length_nil, List.length_take, List.length_drop]; omega)) ⟨.all, ?_⟩ | refine At.stRow (k := zK) rfl rfl sz_3 (.t rfl) (.t rfl) rfl (.n U5) (by first | omega | (simp only [List.length_set]; omega)) (by first | omega | (simp only [List.length_append, List.length_cons, List.length_nil, List.length_take, List.length_drop]; omega)) ⟨.all, ?_⟩ | refine At.stRow (k := zK) rfl rfl sz_3 (.t rfl) (.t rfl) rfl (.n U6) (by first | omega | (simp only [List.length_set]; omega)) (by first | omega | (simp only [List.length_append, List.length_cons, List.length_nil, List.length_take, List.length_drop]; omega)) ⟨.all, ?_⟩ | refine At.stRow (k := zK) rfl rfl sz_3 (.t rfl) (.t rfl) rfl (.n U7) (by first | omega | (simp only [List.length_set]; omega)) (by first | omega | (simp only [List.length_append, List.length_cons, List.length_nil, List.length_take, List.length_drop]; omega)) ⟨.all, ?_⟩ | refine At.stRow (k := zK) rfl rfl sz_3 (.t rfl) (.t rfl) rfl (.h U0) (by first | omega | (simp only [List.length_set]; omega)) (by first | omega | (simp only [List.length_append, List.length_cons, List.length_nil, List.length_take, List.length_drop]; omega)) ⟨.all, ?_⟩ | refine At.stRow (k := zK) rfl rfl sz_3 (.t rfl) (.t rfl) rfl (.h U1) (by first | omega | (simp only [List.length_set]; omega)) (by first | omega | (simp only [List.length_append, List.length_cons, List.length_nil, List.length_take, List.length_drop]; omega)) ⟨.all, ?_⟩ | refine At.stRow (k := zK) rfl rfl sz_3 (.t rfl) (.t rfl) rfl (.h U2) (by first | omega | (simp only [List.length_set]; omega)) (by first | omega | (simp only [List.length_append, List.length_cons, List.length_nil, List.length_take, List.length_drop]; omega)) ⟨.all, ?_⟩ | refine At.stRow (k := zK) rfl rfl sz_3 (.t rfl) (.t rfl) rfl (.h U3) (by first | omega | (simp only [List.length_set]; omega)) (by first | omega | (simp only [List.length_append, List.length_cons, List.length_nil, List.length_take, List.length_drop]; omega)) ⟨.all, ?_⟩
    refine At.nil ?_
    refine At.tN ?_
    refine At.seq ?_
    refine At.plain [(false, 0), (false, 1), (false, 2), (false, 3), (false, 4), (false, 5), (false, 6), (false, 7), (false, 8), (false, 9), (false, 10), (false, 11)] rfl ?_
    refine At.e rfl rfl rfl rfl .all (R.move (.t rfl)) ?_
    refine At.e rfl rfl rfl rfl .all (R.move (.t rfl)) ?_
    refine At.e rfl rfl rfl rfl .all (R.move (.t rfl)) ?_
    refine At.e rfl rfl rfl rfl .all (R.move (.t rfl)) ?_
    refine At.e rfl rfl rfl rfl .all (R.move (.t rfl)) ?_
    refine At.e rfl rfl rfl rfl .all (R.move (.t rfl)) ?_
    refine At.e rfl rfl rfl rfl .all (R.move (.t rfl)) ?_
    first | refine At.eF rfl rfl rfl rfl .all ?_ | refine At.e rfl rfl rfl rfl .all (R.move (by first | exact .t rfl | exact .s rfl | exact .i rfl (by simp_all))) ?_
    first | refine At.eF rfl rfl rfl rfl .all ?_ | refine At.e rfl rfl rfl rfl .all (R.eql (by first | exact .t rfl | exact .s rfl | exact .i rfl (by simp_all)) .c) ?_
    first | refine At.e rfl rfl rfl rfl .all (R.pickT (.t rfl) (.t rfl)) ?_ | refine At.e rfl rfl rfl rfl .all (R.pickF (.t rfl) .c) ?_ | refine At.e rfl rfl rfl rfl .all (R.pickAnd (.t rfl) rfl (by first | (intro hg h; rw [h]; rfl) | (intro hg h; rw [hg, h]; rfl) | (simp_all; done) | (simp_all; omega))) ?_
    refine At.e rfl rfl rfl rfl .all (R.build bt_60 (.cons (.t rfl) (.cons (.t rfl) (.cons (.t rfl) (.cons (.t rfl) (.cons (.t rfl) .nil))))) (.cons rfl (.cons rfl (.cons rfl (.cons rfl (.cons rfl .nil))))) rfl) ?_
    refine At.callM (fst := []) (cap := []) rfl rfl rfl Ev.f (.cons (.t rfl) (.cons (.t rfl) .nil)) rfl (.h (.take .nil)) .nil (a_notes3 (a := (⟨a.w.set i.toNat (g (gE a.w i)), a.d0, a.d1, a.d2, a.d3, a.d4, a.k, a.at_, a.old, a.nw, a.ok⟩ : Ar)) hf) rfl .nil ⟨.all, ?_⟩
    refine At.nil ?_
    refine At.tN ?_
    refine At.seq ?_
    refine At.plain [(false, 0), (false, 1), (false, 2), (false, 3)] rfl ?_
    refine At.e rfl rfl rfl rfl .all (R.move (.t rfl)) ?_
    refine At.e rfl rfl rfl rfl .all (R.move (.t rfl)) ?_
    refine At.e rfl rfl rfl rfl .all (R.assign (.t rfl)) ?_
    refine At.e rfl rfl rfl rfl .all (R.assign (.t rfl)) ?_
    refine At.nil ?_
    refine At.tN ?_
    refine At.ret ?_
    exact At.final2 rfl (.t rfl) (.t rfl) (List.nil_sublist _) (⟨by unfold Ar.peek Ar.ran; first | (rw [if_pos hh0, if_pos hh0]; rfl) | (rw [if_pos hh0, if_pos hh0]) | (rw [if_neg hh0, if_neg hh0]), rfl, by unfold Ar.acc Ar.poke; first | (rw [if_pos hh0, if_pos hh0]; rfl) | (rw [if_neg hh0]; rfl)⟩)

theorem a_changes4 {b n : Nat} {wv : Value} {a : Ar} (hn : a.w.length = n) (hN : n ≤ 1000000) (hf : a.few) {f : FuncId} {fst cap : List Value} {bks : List (Nat × Obj)} {g : Int → Int} {okf : Int → Bool} (hfn : ∀ x : Int, Fn Try.prog f (fst ++ [.int .i64 x] ++ cap) (bks.map fun x => .blk x.1 x.2) [] (IsV (.tuple #[.int .i64 (g x), .bool (okf x)]))) {i : Int} : Fn Try.prog 46 [.pointer (some ⟨b, 0, none⟩), .int .i64 4, .int .i64 i, .func (.func f) fst.toArray cap.toArray] (bks.map fun x => .blk x.1 x.2) ([arB b wv a, arW wv n a]) (IsM (.tuple #[.int .i64 (a.peek i), .bool (a.ran i okf)]) [arB b wv (a.acc 4 i g okf), arW wv n (a.acc 4 i g okf)]) := by
  refine Fn.enter Try.func46 (by kernel_rfl) rfl (n := 56) rfl rfl (fun w => ?_)
  refine At.seq ?_
  refine At.plain [(false, 0), (false, 1)] rfl ?_
  refine At.e rfl rfl rfl rfl .all (R.assign .c) ?_
  refine At.e rfl rfl rfl rfl .all (R.assign .c) ?_
  refine At.nil ?_
  refine At.tN ?_
  refine At.seq ?_
  refine At.seq ?_
  refine At.plain [(false, 0), (false, 1), (false, 2), (false, 3)] rfl ?_
  refine At.e rfl rfl rfl rfl .all (R.move (.t rfl)) ?_
  refine At.e rfl rfl rfl rfl .all (R.move (.t rfl)) ?_
  refine At.callVR rfl rfl rfl (.cons (.t rfl) (.cons (.t rfl) .nil)) (.blk (.st (List.mem_append_right _ M0)) (.cons (wS (List.mem_append_right _ M1)) .nil)) (fun hg => a_is hn hN (a := a)) .all ?_
  refine At.e rfl rfl rfl rfl .all (R.not (.t rfl)) ?_
  refine At.nil ?_
  refine At.tN ?_
  first | refine At.condD (.t rfl) (fun c1 => ?_) (fun c1 => ?_) | refine At.condN (.t rfl) (fun c1 => ?_) (fun c1 => ?_) | refine At.cond (.t rfl) (fun c1 => ?_) (fun c1 => ?_)
  · have hh0 : ¬ a.hit i = true := (by simpa using c1)
    refine At.seq ?_
    refine At.plain [(false, 0), (false, 1), (false, 2), (false, 3), (false, 4)] rfl ?_
    refine At.e rfl rfl rfl rfl .all (R.move (.t rfl)) ?_
    refine At.e rfl rfl rfl rfl .all (R.move (.t rfl)) ?_
    refine At.e rfl rfl rfl rfl .all (R.move (.t rfl)) ?_
    refine At.e rfl rfl rfl rfl .all (R.build bt_60 (.cons (.t rfl) (.cons (.t rfl) .nil)) (.cons rfl (.cons rfl .nil)) rfl) ?_
    refine At.callM (fst := []) (cap := []) rfl rfl rfl Ev.f (.cons (.t rfl) (.cons (.t rfl) .nil)) rfl (.h (.take .nil)) .nil (a_notes4 (a := a) hf) rfl .nil ⟨.all, ?_⟩
    refine At.nil ?_
    refine At.tN ?_
    refine At.seq ?_
    refine At.plain [(false, 0), (false, 1)] rfl ?_
    refine At.e rfl rfl rfl rfl .all (R.assign .c) ?_
    refine At.e rfl rfl rfl rfl .all (R.assign .c) ?_
    refine At.nil ?_
    refine At.tN ?_
    refine At.ret ?_
    refine At.tR ?_
    exact At.final2 rfl (.t rfl) (.t rfl) (List.nil_sublist _) (⟨by unfold Ar.peek Ar.ran; first | (rw [if_pos hh0, if_pos hh0]; rfl) | (rw [if_pos hh0, if_pos hh0]) | (rw [if_neg hh0, if_neg hh0]), rfl, by unfold Ar.acc Ar.poke; first | (rw [if_pos hh0, if_pos hh0]; rfl) | (rw [if_neg hh0]; rfl)⟩)
  · have hh0 : a.hit i = true := (by simpa using c1); have hh := Ar.hit_yes hh0; refine At.rowForm (v := wv) (List.mem_append_right _ M1) (by omega) (fun gg cap2 hv => ?_); subst hv
    refine At.skip ?_
    refine At.tN ?_
    refine At.seq ?_
    refine At.plain [(false, 0), (false, 1), (false, 2), (false, 3), (false, 4), (false, 5), (false, 6), (false, 7)] rfl ?_
    refine At.e rfl rfl rfl rfl .all (R.move (.t rfl)) ?_
    refine At.e rfl rfl rfl rfl .all (R.nilCheckP (.t rfl)) ?_
    first | refine At.e rfl rfl rfl rfl .all (R.fieldAddr fo_62_0 (.t rfl)) ?_ | refine At.e rfl rfl rfl rfl .all (R.fieldRd fo_62_0 (.t rfl) (by first | exact nestS hG (by first | omega | (simp [-List.length_eq_zero_iff] at hg; omega)) | exact rS M0 | exact wS M0 | exact rS M1 | exact wS M1 | exact rS M2 | exact wS M2 | exact rS M3 | exact wS M3 | exact rS M4 | exact wS M4 | exact rS M5 | exact wS M5 | exact rS M6 | exact wS M6 | exact rS M7 | exact wS M7 | exact rS M8 | exact wS M8 | exact rS M9 | exact wS M9 | exact rN M0 | exact wN M0 | exact rN M1 | exact wN M1 | exact rN M2 | exact wN M2 | exact rN M3 | exact wN M3 | exact RdIn.nil) (fun hg => (by first | omega | ((simp [-List.length_eq_zero_iff] at hg; omega)) | (simp only [List.length_append, List.length_cons, List.length_nil, List.length_take, List.length_drop]; omega)))) ?_
    refine At.e rfl rfl rfl rfl .all (R.load Try.underlying57 rfl (.t rfl) (by first | exact cS M0 rfl | exact cS M1 rfl | exact cS M2 rfl | exact cS M3 rfl | exact cS M4 rfl | exact cS M5 rfl | exact cS M6 rfl | exact cS M7 rfl | exact cN M0 rfl | exact cN M1 rfl | exact cN M2 rfl | exact cN M3 rfl | exact cN M4 rfl)) ?_
    refine At.e rfl rfl rfl rfl .all (R.move (.t rfl)) ?_
    first | refine At.e rfl rfl rfl rfl .all (R.indexRd Try.underlying57 sz_3 (.t rfl) (by first | exact nestS hG (by first | omega | (simp [-List.length_eq_zero_iff] at hg; omega)) | exact rS M0 | exact wS M0 | exact rS M1 | exact wS M1 | exact rS M2 | exact wS M2 | exact rS M3 | exact wS M3 | exact rS M4 | exact wS M4 | exact rS M5 | exact wS M5 | exact rS M6 | exact wS M6 | exact rS M7 | exact wS M7 | exact rS M8 | exact wS M8 | exact rS M9 | exact wS M9 | exact rN M0 | exact wN M0 | exact rN M1 | exact wN M1 | exact rN M2 | exact wN M2 | exact rN M3 | exact wN M3 | exact RdIn.nil) (.t rfl) (fun hg => (by first | omega | ((simp [-List.length_eq_zero_iff] at hg; omega)) | (simp only [List.length_append, List.length_cons, List.length_nil, List.length_take, List.length_drop]; omega)))) ?_ | refine At.e rfl rfl rfl rfl .all (R.indexSlE Try.underlying57 sz_3 (.t rfl) (.t rfl) (fun hg => by first | omega | (simp [-List.length_eq_zero_iff] at hg; omega))) ?_
    first | refine At.e rfl rfl rfl rfl .all (R.loadRd Try.underlying3 rfl (.t rfl) (by first | exact nestS hG (by first | omega | (simp [-List.length_eq_zero_iff] at hg; omega)) | exact rS M0 | exact wS M0 | exact rS M1 | exact wS M1 | exact rS M2 | exact wS M2 | exact rS M3 | exact wS M3 | exact rS M4 | exact wS M4 | exact rS M5 | exact wS M5 | exact rS M6 | exact wS M6 | exact rS M7 | exact wS M7 | exact rS M8 | exact wS M8 | exact rS M9 | exact wS M9 | exact rN M0 | exact wN M0 | exact rN M1 | exact wN M1 | exact rN M2 | exact wN M2 | exact rN M3 | exact wN M3 | exact RdIn.nil) (fun hg => by exact nestGet (by first | omega | ((simp [-List.length_eq_zero_iff] at hg; omega)) | (simp only [List.length_append, List.length_cons, List.length_nil, List.length_take, List.length_drop]; omega)))) ?_ | refine At.e rfl rfl rfl rfl .all (R.loadRd Try.underlying3 rfl (.t rfl) (by first | exact nestS hG (by first | omega | (simp [-List.length_eq_zero_iff] at hg; omega)) | exact rS M0 | exact wS M0 | exact rS M1 | exact wS M1 | exact rS M2 | exact wS M2 | exact rS M3 | exact wS M3 | exact rS M4 | exact wS M4 | exact rS M5 | exact wS M5 | exact rS M6 | exact wS M6 | exact rS M7 | exact wS M7 | exact rS M8 | exact wS M8 | exact rS M9 | exact wS M9 | exact rN M0 | exact wN M0 | exact rN M1 | exact wN M1 | exact rN M2 | exact wN M2 | exact rN M3 | exact wN M3 | exact RdIn.nil) (fun hg => by exact Ek.getN rfl (by first | omega | ((simp [-List.length_eq_zero_iff] at hg; omega)) | (simp only [List.length_append, List.length_cons, List.length_nil, List.length_take, List.length_drop]; omega)))) ?_ | refine At.e rfl rfl rfl rfl .all (R.loadRd Try.underlying3 rfl (.t rfl) (by first | exact nestS hG (by first | omega | (simp [-List.length_eq_zero_iff] at hg; omega)) | exact rS M0 | exact wS M0 | exact rS M1 | exact wS M1 | exact rS M2 | exact wS M2 | exact rS M3 | exact wS M3 | exact rS M4 | exact wS M4 | exact rS M5 | exact wS M5 | exact rS M6 | exact wS M6 | exact rS M7 | exact wS M7 | exact rS M8 | exact wS M8 | exact rS M9 | exact wS M9 | exact rN M0 | exact wN M0 | exact rN M1 | exact wN M1 | exact rN M2 | exact wN M2 | exact rN M3 | exact wN M3 | exact RdIn.nil) (fun hg => by exact Ek.get0 rfl (by first | omega | ((simp [-List.length_eq_zero_iff] at hg; omega)) | (simp only [List.length_append, List.length_cons, List.length_nil, List.length_take, List.length_drop]; omega)))) ?_
    refine At.e rfl rfl rfl rfl .all (R.assign (.t rfl)) ?_
    refine At.nil ?_
    refine At.tN ?_
    refine At.seq ?_
    refine At.plain [(false, 0), (false, 1), (false, 2), (false, 3), (false, 4), (false, 5), (false, 6), (false, 7)] rfl ?_
    refine At.e rfl rfl rfl rfl .all (R.move (.t rfl)) ?_
    refine At.e rfl rfl rfl rfl .all (R.move (.t rfl)) ?_
    refine At.callVF (fst := fst) (cap := cap) rfl rfl rfl (.t rfl) (.cons (.t rfl) .nil) rfl (Rds.blks (fun x hx => .st (List.mem_append_left _ (List.mem_map.2 ⟨x, hx, rfl⟩)))) (fun hg => hfn (gE a.w i)) .all ?_
    refine At.e rfl rfl rfl rfl .all (R.move (.t rfl)) ?_
    refine At.e rfl rfl rfl rfl .all (R.extract (.t rfl) rfl) ?_
    refine At.e rfl rfl rfl rfl .all (R.extract (.t rfl) rfl) ?_
    refine At.e rfl rfl rfl rfl .all (R.assign (.t rfl)) ?_
    refine At.e rfl rfl rfl rfl .all (R.assign (.t rfl)) ?_
    refine At.nil ?_
    refine At.tN ?_
    refine At.seq ?_
    refine At.plain [(false, 0), (false, 1), (false, 2), (false, 3), (false, 4), (false, 5), (false, 6), (false, 7)] rfl ?_
    refine At.e rfl rfl rfl rfl .all (R.move (.t rfl)) ?_
    refine At.e rfl rfl rfl rfl .all (R.nilCheckP (.t rfl)) ?_
    first | refine At.e rfl rfl rfl rfl .all (R.fieldAddr fo_62_0 (.t rfl)) ?_ | refine At.e rfl rfl rfl rfl .all (R.fieldRd fo_62_0 (.t rfl) (by first | exact nestS hG (by first | omega | (simp [-List.length_eq_zero_iff] at hg; omega)) | exact rS M0 | exact wS M0 | exact rS M1 | exact wS M1 | exact rS M2 | exact wS M2 | exact rS M3 | exact wS M3 | exact rS M4 | exact wS M4 | exact rS M5 | exact wS M5 | exact rS M6 | exact wS M6 | exact rS M7 | exact wS M7 | exact rS M8 | exact wS M8 | exact rS M9 | exact wS M9 | exact rN M0 | exact wN M0 | exact rN M1 | exact wN M1 | exact rN M2 | exact wN M2 | exact rN M3 | exact wN M3 | exact RdIn.nil) (fun hg => (by first | omega | ((simp [-List.length_eq_zero_iff] at hg; omega)) | (simp only [List.length_append, List.length_cons, List.length_nil, List.length_take, List.length_drop]; omega)))) ?_
    refine At.e rfl rfl rfl rfl .all (R.load Try.underlying57 rfl (.t rfl) (by first | exact cS M0 rfl | exact cS M1 rfl | exact cS M2 rfl | exact cS M3 rfl | exact cS M4 rfl | exact cS M5 rfl | exact cS M6 rfl | exact cS M7 rfl | exact cN M0 rfl | exact cN M1 rfl | exact cN M2 rfl | exact cN M3 rfl | exact cN M4 rfl)) ?_
    refine At.e rfl rfl rfl rfl .all (R.move (.t rfl)) ?_
    refine At.e rfl rfl rfl rfl .all (R.move (.t rfl)) ?_
    first | refine At.e rfl rfl rfl rfl .all (R.indexRd Try.underlying57 sz_3 (.t rfl) (by first | exact nestS hG (by first | omega | (simp [-List.length_eq_zero_iff] at hg; omega)) | exact rS M0 | exact wS M0 | exact rS M1 | exact wS M1 | exact rS M2 | exact wS M2 | exact rS M3 | exact wS M3 | exact rS M4 | exact wS M4 | exact rS M5 | exact wS M5 | exact rS M6 | exact wS M6 | exact rS M7 | exact wS M7 | exact rS M8 | exact wS M8 | exact rS M9 | exact wS M9 | exact rN M0 | exact wN M0 | exact rN M1 | exact wN M1 | exact rN M2 | exact wN M2 | exact rN M3 | exact wN M3 | exact RdIn.nil) (.t rfl) (fun hg => (by first | omega | ((simp [-List.length_eq_zero_iff] at hg; omega)) | (simp only [List.length_append, List.length_cons, List.length_nil, List.length_take, List.length_drop]; omega)))) ?_ | refine At.e rfl rfl rfl rfl .all (R.indexSlE Try.underlying57 sz_3 (.t rfl) (.t rfl) (fun hg => by first | omega | (simp [-List.length_eq_zero_iff] at hg; omega))) ?_
    first | refine At.stRow (k := zK) rfl rfl sz_3 (.t rfl) (.t rfl) rfl (.n U0) (by first | omega | (simp only [List.length_set]; omega)) (by first | omega | (simp only [List.length_append, List.length_cons, List.length_nil, List.length_take, List.length_drop]; omega)) ⟨.all, ?_⟩ | refine At.stRow (k := zK) rfl rfl sz_3 (.t rfl) (.t rfl) rfl (.n U1) (by first | omega | (simp only [List.length_set]; omega)) (by first | omega | (simp only [List.length_append, List.length_cons, List.length_nil, List.length_take, List.length_drop]; omega)) ⟨.all, ?_⟩ | refine At.stRow (k := zK) rfl rfl sz_3 (.t rfl) (.t rfl) rfl (.n U2) (by first | omega | (simp only [List.length_set]; omega)) (by first | omega | (simp only [List.length_append, List.length_cons, List.length_nil, List.length_take, List.length_drop]; omega)) ⟨.all, ?_⟩ | refine At.stRow (k := zK) rfl rfl sz_3 (.t rfl) (.t rfl) rfl (.n U3) (by first | omega | (simp only [List.length_set]; omega)) (by first | omega | (simp only [List.length_append, List.length_cons, List.length_nil, List.length_take, List.length_drop]; omega)) ⟨.all, ?_⟩ | refine At.stRow (k := zK) rfl rfl sz_3 (.t rfl) (.t rfl) rfl (.n U4) (by first | omega | (simp only [List.length_set]; omega)) (by first | omega | (simp only [List.length_append, List.length_cons, List.length_nil, List.length_take, List.length_drop]; omega)) ⟨.all, ?_⟩ | refine At.stRow (k := zK) rfl rfl sz_3 (.t rfl) (.t rfl) rfl (.n U5) (by first | omega | (simp only [List.length_set]; omega)) (by first | omega | (simp only [List.length_append, List.length_cons, List.length_nil, List.length_take, List.length_drop]; omega)) ⟨.all, ?_⟩ | refine At.stRow (k := zK) rfl rfl sz_3 (.t rfl) (.t rfl) rfl (.n U6) (by first | omega | (simp only [List.length_set]; omega)) (by first | omega | (simp only [List.length_append, List.length_cons, List.length_nil, List.length_take, List.length_drop]; omega)) ⟨.all, ?_⟩ | refine At.stRow (k := zK) rfl rfl sz_3 (.t rfl) (.t rfl) rfl (.n U7) (by first | omega | (simp only [List.length_set]; omega)) (by first | omega | (simp only [List.length_append, List.length_cons, List.length_nil, List.length_take, List.length_drop]; omega)) ⟨.all, ?_⟩ | refine At.stRow (k := zK) rfl rfl sz_3 (.t rfl) (.t rfl) rfl (.h U0) (by first | omega | (simp only [List.length_set]; omega)) (by first | omega | (simp only [List.length_append, List.length_cons, List.length_nil, List.length_take, List.length_drop]; omega)) ⟨.all, ?_⟩ | refine At.stRow (k := zK) rfl rfl sz_3 (.t rfl) (.t rfl) rfl (.h U1) (by first | omega | (simp only [List.length_set]; omega)) (by first | omega | (simp only [List.length_append, List.length_cons, List.length_nil, List.length_take, List.length_drop]; omega)) ⟨.all, ?_⟩ | refine At.stRow (k := zK) rfl rfl sz_3 (.t rfl) (.t rfl) rfl (.h U2) (by first | omega | (simp only [List.length_set]; omega)) (by first | omega | (simp only [List.length_append, List.length_cons, List.length_nil, List.length_take, List.length_drop]; omega)) ⟨.all, ?_⟩ | refine At.stRow (k := zK) rfl rfl sz_3 (.t rfl) (.t rfl) rfl (.h U3) (by first | omega | (simp only [List.length_set]; omega)) (by first | omega | (simp only [List.length_append, List.length_cons, List.length_nil, List.length_take, List.length_drop]; omega)) ⟨.all, ?_⟩
    refine At.nil ?_
    refine At.tN ?_
    refine At.seq ?_
    refine At.plain [(false, 0), (false, 1), (false, 2), (false, 3), (false, 4), (false, 5), (false, 6), (false, 7), (false, 8), (false, 9), (false, 10), (false, 11)] rfl ?_
    refine At.e rfl rfl rfl rfl .all (R.move (.t rfl)) ?_
    refine At.e rfl rfl rfl rfl .all (R.move (.t rfl)) ?_
    refine At.e rfl rfl rfl rfl .all (R.move (.t rfl)) ?_
    refine At.e rfl rfl rfl rfl .all (R.move (.t rfl)) ?_
    refine At.e rfl rfl rfl rfl .all (R.move (.t rfl)) ?_
    refine At.e rfl rfl rfl rfl .all (R.move (.t rfl)) ?_
    refine At.e rfl rfl rfl rfl .all (R.move (.t rfl)) ?_
    first | refine At.eF rfl rfl rfl rfl .all ?_ | refine At.e rfl rfl rfl rfl .all (R.move (by first | exact .t rfl | exact .s rfl | exact .i rfl (by simp_all))) ?_
    first | refine At.eF rfl rfl rfl rfl .all ?_ | refine At.e rfl rfl rfl rfl .all (R.eql (by first | exact .t rfl | exact .s rfl | exact .i rfl (by simp_all)) .c) ?_
    first | refine At.e rfl rfl rfl rfl .all (R.pickT (.t rfl) (.t rfl)) ?_ | refine At.e rfl rfl rfl rfl .all (R.pickF (.t rfl) .c) ?_ | refine At.e rfl rfl rfl rfl .all (R.pickAnd (.t rfl) rfl (by first | (intro hg h; rw [h]; rfl) | (intro hg h; rw [hg, h]; rfl) | (simp_all; done) | (simp_all; omega))) ?_
    refine At.e rfl rfl rfl rfl .all (R.build bt_60 (.cons (.t rfl) (.cons (.t rfl) (.cons (.t rfl) (.cons (.t rfl) (.cons (.t rfl) .nil))))) (.cons rfl (.cons rfl (.cons rfl (.cons rfl (.cons rfl .nil))))) rfl) ?_
    refine At.callM (fst := []) (cap := []) rfl rfl rfl Ev.f (.cons (.t rfl) (.cons (.t rfl) .nil)) rfl (.h (.take .nil)) .nil (a_notes4 (a := (⟨a.w.set i.toNat (g (gE a.w i)), a.d0, a.d1, a.d2, a.d3, a.d4, a.k, a.at_, a.old, a.nw, a.ok⟩ : Ar)) hf) rfl .nil ⟨.all, ?_⟩
    refine At.nil ?_
    refine At.tN ?_
    refine At.seq ?_
    refine At.plain [(false, 0), (false, 1), (false, 2), (false, 3)] rfl ?_
    refine At.e rfl rfl rfl rfl .all (R.move (.t rfl)) ?_
    refine At.e rfl rfl rfl rfl .all (R.move (.t rfl)) ?_
    refine At.e rfl rfl rfl rfl .all (R.assign (.t rfl)) ?_
    refine At.e rfl rfl rfl rfl .all (R.assign (.t rfl)) ?_
    refine At.nil ?_
    refine At.tN ?_
    refine At.ret ?_
    exact At.final2 rfl (.t rfl) (.t rfl) (List.nil_sublist _) (⟨by unfold Ar.peek Ar.ran; first | (rw [if_pos hh0, if_pos hh0]; rfl) | (rw [if_pos hh0, if_pos hh0]) | (rw [if_neg hh0, if_neg hh0]), rfl, by unfold Ar.acc Ar.poke; first | (rw [if_pos hh0, if_pos hh0]; rfl) | (rw [if_neg hh0]; rfl)⟩)

end Go.Proofs.Ytimclnhklaldfaa
