/- A3 -/
import Derived.Test.YtimclnhklaldfaaA2
namespace Go.Proofs.Ytimclnhklaldfaa
open Go Go.RowKit
set_option maxRecDepth 10000
set_option linter.unusedVariables false
theorem bt_26 : buildTab Try.prog 26 = some (#[.int .i64 0, .int .i64 0, .int .i64 0, .int .i64 0], [(0, 1), (1, 1), (2, 1), (3, 1)]) := by kernel_rfl
theorem bt_62 : buildTab Try.prog 62 = some (#[.slice none 0 0, .int .i64 0, .int .i64 0, .int .i64 0, .int .i64 0, .int .i64 0, .int .i64 0, .int .i64 0, .int .i64 0, .int .i64 0, .bool false], [(0, 1), (1, 5), (6, 5)]) := by kernel_rfl
theorem et_3 : elemTab Try.prog 3 = some (1, 8) := by kernel_rfl
theorem fo_26_0 : fieldOff? Try.prog 26 0 = some 0 := by kernel_rfl
theorem fo_26_1 : fieldOff? Try.prog 26 1 = some 1 := by kernel_rfl
theorem sz_26 : (Try.prog.info? 26).map (·.size) = some 4 := by kernel_rfl
theorem ze_26 : (Try.prog.info? 26).bind (·.zero) = some (.agg #[.int .i64 0, .int .i64 0, .int .i64 0, .int .i64 0]) := by kernel_rfl
theorem ze_3 : (Try.prog.info? 3).bind (·.zero) = some (.int .i64 0) := by kernel_rfl


def verW (s : Int) : Int := if s < 3 then -1 else s - 3
/-- A contract: a new arena. -/
def IsA (n : Nat) (a : Ar) : Value → Hp → Hp → Prop := fun v N H => ∃ b wv, v = .pointer (some ⟨b, 0, none⟩) ∧ N = [arB b wv a, arW wv n a] ∧ H = []
theorem p_Psa {t : Int} (h0 : 0 ≤ t) (h1 : t ≤ 1000000) : Fn Try.prog 45 [.int .i64 t] ([]) ([]) (IsV (.int .i64 (3 + t))) := by
  refine Fn.enter Try.func45 (by kernel_rfl) rfl (n := 5) rfl rfl (fun w => ?_)
  refine At.seq ?_
  refine At.plain [(false, 0)] rfl ?_
  refine At.e rfl rfl rfl rfl .all (R.assign .c) ?_
  refine At.nil ?_
  refine At.tN ?_
  refine At.seq ?_
  refine At.plain [(false, 0), (false, 1), (false, 2)] rfl ?_
  refine At.e rfl rfl rfl rfl .all (R.move (.t rfl)) ?_
  first | refine At.e rfl rfl rfl rfl .all (R.addI .c (.t rfl) (fun hg => by first | omega | (simp [-List.length_eq_zero_iff] at hg; omega))) ?_ | refine At.e rfl rfl rfl rfl .all (R.add .c (.t rfl)) ?_
  refine At.e rfl rfl rfl rfl .all (R.assign (.t rfl)) ?_
  refine At.nil ?_
  refine At.tN ?_
  refine At.ret ?_
  exact At.final rfl (.t rfl) (List.nil_sublist _) (⟨congrArg (Value.int .i64) (by omega), rfl, rfl⟩)

theorem p_Size {a b c d : Int} (h2 : 0 ≤ b) (h3 : b ≤ 1000000) : Fn Try.prog 44 [.agg #[.int .i64 a, .int .i64 b, .int .i64 c, .int .i64 d]] ([]) ([]) (IsV (.int .i64 (7 + 3 * b))) := by
  refine Fn.enter Try.func44 (by kernel_rfl) rfl (n := 7) rfl rfl (fun w => ?_)
  refine At.seq ?_
  refine At.plain [(false, 0), (false, 1)] rfl ?_
  refine At.box rfl rfl rfl (.t rfl) (fun b1 hb1 => ⟨.all, ?_⟩)
  refine At.e rfl rfl rfl rfl .all (R.assign .c) ?_
  refine At.nil ?_
  refine At.tN ?_
  refine At.seq ?_
  refine At.plain [(false, 0), (false, 1), (false, 2), (false, 3), (false, 4)] rfl ?_
  first | refine At.e rfl rfl rfl rfl .all (R.fieldAddr fo_26_1 (.t rfl)) ?_ | refine At.e rfl rfl rfl rfl .all (R.fieldRd fo_26_1 (.t rfl) (by (first | exact rS M0 | exact wS M0 | exact rS M1 | exact wS M1 | exact rS M2 | exact wS M2 | exact rS M3 | exact wS M3 | exact rS M4 | exact wS M4 | exact rS M5 | exact wS M5 | exact rS M6 | exact wS M6 | exact rS M7 | exact wS M7 | exact rS M8 | exact wS M8 | exact rS M9 | exact wS M9 | exact RdIn.nil | exact (fun w hw => hrK w (Cl.kept (by (first | exact fun _ h => h | exact keepOf (by (((repeat (first | exact List.Sublist.refl _ | exact List.nil_sublist _ | apply List.Sublist.cons_cons | apply List.Sublist.cons | exact List.sublist_append_right _ _ | exact List.sublist_append_left _ _ | apply List.Sublist.append_left | apply List.sublist_append_of_sublist_right)) <;> fail))))) w hw)))) (fun hg => (by first | omega | ((simp [-List.length_eq_zero_iff] at hg; omega)) | (simp only [List.length_append, List.length_cons, List.length_nil, List.length_take, List.length_drop]; omega)))) ?_
  refine At.e rfl rfl rfl rfl .all (R.load Try.underlying3 rfl (.t rfl) (by first | exact cS M0 rfl | exact cS M1 rfl | exact cS M2 rfl | exact cS M3 rfl | exact cS M4 rfl | exact cS M5 rfl | exact cS M6 rfl | exact cS M7 rfl)) ?_
  first | refine At.e rfl rfl rfl rfl .all (R.mulI .c (.t rfl) (fun hg => by first | omega | (simp [-List.length_eq_zero_iff] at hg; omega))) ?_ | refine At.e rfl rfl rfl rfl .all (R.mul .c (.t rfl)) ?_
  first | refine At.e rfl rfl rfl rfl .all (R.addI .c (.t rfl) (fun hg => by first | omega | (simp [-List.length_eq_zero_iff] at hg; omega))) ?_ | refine At.e rfl rfl rfl rfl .all (R.add .c (.t rfl)) ?_
  refine At.e rfl rfl rfl rfl .all (R.assign (.t rfl)) ?_
  refine At.nil ?_
  refine At.tN ?_
  refine At.ret ?_
  exact At.final rfl (.t rfl) (List.nil_sublist _) (⟨congrArg (Value.int .i64) (by omega), rfl, rfl⟩)

theorem p_Head {a b c d : Int} (h0 : 0 ≤ a) (h1 : a ≤ 1000000) : Fn Try.prog 23 [.agg #[.int .i64 a, .int .i64 b, .int .i64 c, .int .i64 d]] ([]) ([]) (IsV (.int .i64 (7 + a))) := by
  refine Fn.enter Try.func23 (by kernel_rfl) rfl (n := 7) rfl rfl (fun w => ?_)
  refine At.seq ?_
  refine At.plain [(false, 0), (false, 1)] rfl ?_
  refine At.box rfl rfl rfl (.t rfl) (fun b1 hb1 => ⟨.all, ?_⟩)
  refine At.e rfl rfl rfl rfl .all (R.assign .c) ?_
  refine At.nil ?_
  refine At.tN ?_
  refine At.seq ?_
  refine At.plain [(false, 0), (false, 1), (false, 2), (false, 3), (false, 4)] rfl ?_
  first | refine At.e rfl rfl rfl rfl .all (R.fieldAddr fo_26_0 (.t rfl)) ?_ | refine At.e rfl rfl rfl rfl .all (R.fieldRd fo_26_0 (.t rfl) (by (first | exact rS M0 | exact wS M0 | exact rS M1 | exact wS M1 | exact rS M2 | exact wS M2 | exact rS M3 | exact wS M3 | exact rS M4 | exact wS M4 | exact rS M5 | exact wS M5 | exact rS M6 | exact wS M6 | exact rS M7 | exact wS M7 | exact rS M8 | exact wS M8 | exact rS M9 | exact wS M9 | exact RdIn.nil | exact (fun w hw => hrK w (Cl.kept (by (first | exact fun _ h => h | exact keepOf (by (((repeat (first | exact List.Sublist.refl _ | exact List.nil_sublist _ | apply List.Sublist.cons_cons | apply List.Sublist.cons | exact List.sublist_append_right _ _ | exact List.sublist_append_left _ _ | apply List.Sublist.append_left | apply List.sublist_append_of_sublist_right)) <;> fail))))) w hw)))) (fun hg => (by first | omega | ((simp [-List.length_eq_zero_iff] at hg; omega)) | (simp only [List.length_append, List.length_cons, List.length_nil, List.length_take, List.length_drop]; omega)))) ?_
  refine At.e rfl rfl rfl rfl .all (R.load Try.underlying3 rfl (.t rfl) (by first | exact cS M0 rfl | exact cS M1 rfl | exact cS M2 rfl | exact cS M3 rfl | exact cS M4 rfl | exact cS M5 rfl | exact cS M6 rfl | exact cS M7 rfl)) ?_
  refine At.callVR rfl rfl rfl (.cons (.t rfl) .nil) (by (first | exact .nil | exact .cons (by (first | exact rS M0 | exact wS M0 | exact rS M1 | exact wS M1 | exact rS M2 | exact wS M2 | exact rS M3 | exact wS M3 | exact rS M4 | exact wS M4 | exact rS M5 | exact wS M5 | exact rS M6 | exact wS M6 | exact rS M7 | exact wS M7 | exact rS M8 | exact wS M8 | exact rS M9 | exact wS M9 | exact RdIn.nil | exact (fun w hw => hrK w (Cl.kept (by (first | exact fun _ h => h | exact keepOf (by (((repeat (first | exact List.Sublist.refl _ | exact List.nil_sublist _ | apply List.Sublist.cons_cons | apply List.Sublist.cons | exact List.sublist_append_right _ _ | exact List.sublist_append_left _ _ | apply List.Sublist.append_left | apply List.sublist_append_of_sublist_right)) <;> fail))))) w hw)))) .nil | exact .cons (by (first | exact rS M0 | exact wS M0 | exact rS M1 | exact wS M1 | exact rS M2 | exact wS M2 | exact rS M3 | exact wS M3 | exact rS M4 | exact wS M4 | exact rS M5 | exact wS M5 | exact rS M6 | exact wS M6 | exact rS M7 | exact wS M7 | exact rS M8 | exact wS M8 | exact rS M9 | exact wS M9 | exact RdIn.nil | exact (fun w hw => hrK w (Cl.kept (by (first | exact fun _ h => h | exact keepOf (by (((repeat (first | exact List.Sublist.refl _ | exact List.nil_sublist _ | apply List.Sublist.cons_cons | apply List.Sublist.cons | exact List.sublist_append_right _ _ | exact List.sublist_append_left _ _ | apply List.Sublist.append_left | apply List.sublist_append_of_sublist_right)) <;> fail))))) w hw)))) (.blk (.st M0) .nil) | exact .cons (by (first | exact rS M0 | exact wS M0 | exact rS M1 | exact wS M1 | exact rS M2 | exact wS M2 | exact rS M3 | exact wS M3 | exact rS M4 | exact wS M4 | exact rS M5 | exact wS M5 | exact rS M6 | exact wS M6 | exact rS M7 | exact wS M7 | exact rS M8 | exact wS M8 | exact rS M9 | exact wS M9 | exact RdIn.nil | exact (fun w hw => hrK w (Cl.kept (by (first | exact fun _ h => h | exact keepOf (by (((repeat (first | exact List.Sublist.refl _ | exact List.nil_sublist _ | apply List.Sublist.cons_cons | apply List.Sublist.cons | exact List.sublist_append_right _ _ | exact List.sublist_append_left _ _ | apply List.Sublist.append_left | apply List.sublist_append_of_sublist_right)) <;> fail))))) w hw)))) (.blk (.st M1) .nil) | exact .blk (.st M0) .nil | exact .blk (.st M1) .nil | exact .blk (.st M2) .nil | exact .blk (.st M3) .nil | exact .cons (by (first | exact rS M0 | exact wS M0 | exact rS M1 | exact wS M1 | exact rS M2 | exact wS M2 | exact rS M3 | exact wS M3 | exact rS M4 | exact wS M4 | exact rS M5 | exact wS M5 | exact rS M6 | exact wS M6 | exact rS M7 | exact wS M7 | exact rS M8 | exact wS M8 | exact rS M9 | exact wS M9 | exact RdIn.nil | exact (fun w hw => hrK w (Cl.kept (by (first | exact fun _ h => h | exact keepOf (by (((repeat (first | exact List.Sublist.refl _ | exact List.nil_sublist _ | apply List.Sublist.cons_cons | apply List.Sublist.cons | exact List.sublist_append_right _ _ | exact List.sublist_append_left _ _ | apply List.Sublist.append_left | apply List.sublist_append_of_sublist_right)) <;> fail))))) w hw)))) (.cons (by (first | exact rS M0 | exact wS M0 | exact rS M1 | exact wS M1 | exact rS M2 | exact wS M2 | exact rS M3 | exact wS M3 | exact rS M4 | exact wS M4 | exact rS M5 | exact wS M5 | exact rS M6 | exact wS M6 | exact rS M7 | exact wS M7 | exact rS M8 | exact wS M8 | exact rS M9 | exact wS M9 | exact RdIn.nil | exact (fun w hw => hrK w (Cl.kept (by (first | exact fun _ h => h | exact keepOf (by (((repeat (first | exact List.Sublist.refl _ | exact List.nil_sublist _ | apply List.Sublist.cons_cons | apply List.Sublist.cons | exact List.sublist_append_right _ _ | exact List.sublist_append_left _ _ | apply List.Sublist.append_left | apply List.sublist_append_of_sublist_right)) <;> fail))))) w hw)))) .nil) | exact .cons (by (first | exact rS M0 | exact wS M0 | exact rS M1 | exact wS M1 | exact rS M2 | exact wS M2 | exact rS M3 | exact wS M3 | exact rS M4 | exact wS M4 | exact rS M5 | exact wS M5 | exact rS M6 | exact wS M6 | exact rS M7 | exact wS M7 | exact rS M8 | exact wS M8 | exact rS M9 | exact wS M9 | exact RdIn.nil | exact (fun w hw => hrK w (Cl.kept (by (first | exact fun _ h => h | exact keepOf (by (((repeat (first | exact List.Sublist.refl _ | exact List.nil_sublist _ | apply List.Sublist.cons_cons | apply List.Sublist.cons | exact List.sublist_append_right _ _ | exact List.sublist_append_left _ _ | apply List.Sublist.append_left | apply List.sublist_append_of_sublist_right)) <;> fail))))) w hw)))) (.cons (by (first | exact rS M0 | exact wS M0 | exact rS M1 | exact wS M1 | exact rS M2 | exact wS M2 | exact rS M3 | exact wS M3 | exact rS M4 | exact wS M4 | exact rS M5 | exact wS M5 | exact rS M6 | exact wS M6 | exact rS M7 | exact wS M7 | exact rS M8 | exact wS M8 | exact rS M9 | exact wS M9 | exact RdIn.nil | exact (fun w hw => hrK w (Cl.kept (by (first | exact fun _ h => h | exact keepOf (by (((repeat (first | exact List.Sublist.refl _ | exact List.nil_sublist _ | apply List.Sublist.cons_cons | apply List.Sublist.cons | exact List.sublist_append_right _ _ | exact List.sublist_append_left _ _ | apply List.Sublist.append_left | apply List.sublist_append_of_sublist_right)) <;> fail))))) w hw)))) (.cons (by (first | exact rS M0 | exact wS M0 | exact rS M1 | exact wS M1 | exact rS M2 | exact wS M2 | exact rS M3 | exact wS M3 | exact rS M4 | exact wS M4 | exact rS M5 | exact wS M5 | exact rS M6 | exact wS M6 | exact rS M7 | exact wS M7 | exact rS M8 | exact wS M8 | exact rS M9 | exact wS M9 | exact RdIn.nil | exact (fun w hw => hrK w (Cl.kept (by (first | exact fun _ h => h | exact keepOf (by (((repeat (first | exact List.Sublist.refl _ | exact List.nil_sublist _ | apply List.Sublist.cons_cons | apply List.Sublist.cons | exact List.sublist_append_right _ _ | exact List.sublist_append_left _ _ | apply List.Sublist.append_left | apply List.sublist_append_of_sublist_right)) <;> fail))))) w hw)))) .nil)))) (fun hg => p_Psa (by omega) (by omega)) .all ?_
  first | refine At.e rfl rfl rfl rfl .all (R.addI (.t rfl) .c (fun hg => by first | omega | (simp [-List.length_eq_zero_iff] at hg; omega))) ?_ | refine At.e rfl rfl rfl rfl .all (R.add (.t rfl) .c) ?_
  refine At.e rfl rfl rfl rfl .all (R.assign (.t rfl)) ?_
  refine At.nil ?_
  refine At.tN ?_
  refine At.ret ?_
  exact At.final rfl (.t rfl) (List.nil_sublist _) (⟨congrArg (Value.int .i64) (by omega), rfl, rfl⟩)

theorem p_First {a b c d : Int} (h0 : 0 ≤ a) (h1 : a ≤ 1000000) : Fn Try.prog 8 [.agg #[.int .i64 a, .int .i64 b, .int .i64 c, .int .i64 d]] ([]) ([]) (IsV (.int .i64 (14 + a))) := by
  refine Fn.enter Try.func8 (by kernel_rfl) rfl (n := 6) rfl rfl (fun w => ?_)
  refine At.seq ?_
  refine At.plain [(false, 0), (false, 1)] rfl ?_
  refine At.box rfl rfl rfl (.t rfl) (fun b1 hb1 => ⟨.all, ?_⟩)
  refine At.e rfl rfl rfl rfl .all (R.assign .c) ?_
  refine At.nil ?_
  refine At.tN ?_
  refine At.seq ?_
  refine At.plain [(false, 0), (false, 1), (false, 2), (false, 3)] rfl ?_
  refine At.e rfl rfl rfl rfl .all (R.loadAgg (vs := [_, _, _, _]) Try.underlying26 rfl sz_26 (.t rfl) (by first | exact csS M0 ⟨rfl, rfl, rfl, rfl, trivial⟩ | exact csS M1 ⟨rfl, rfl, rfl, rfl, trivial⟩ | exact csS M2 ⟨rfl, rfl, rfl, rfl, trivial⟩ | exact csS M3 ⟨rfl, rfl, rfl, rfl, trivial⟩ | exact csS M4 ⟨rfl, rfl, rfl, rfl, trivial⟩ | exact csS M5 ⟨rfl, rfl, rfl, rfl, trivial⟩ | exact csS M6 ⟨rfl, rfl, rfl, rfl, trivial⟩ | exact csS M7 ⟨rfl, rfl, rfl, rfl, trivial⟩)) ?_
  refine At.callVR rfl rfl rfl (.cons (.t rfl) .nil) (by (first | exact .nil | exact .cons (by (first | exact rS M0 | exact wS M0 | exact rS M1 | exact wS M1 | exact rS M2 | exact wS M2 | exact rS M3 | exact wS M3 | exact rS M4 | exact wS M4 | exact rS M5 | exact wS M5 | exact rS M6 | exact wS M6 | exact rS M7 | exact wS M7 | exact rS M8 | exact wS M8 | exact rS M9 | exact wS M9 | exact RdIn.nil | exact (fun w hw => hrK w (Cl.kept (by (first | exact fun _ h => h | exact keepOf (by (((repeat (first | exact List.Sublist.refl _ | exact List.nil_sublist _ | apply List.Sublist.cons_cons | apply List.Sublist.cons | exact List.sublist_append_right _ _ | exact List.sublist_append_left _ _ | apply List.Sublist.append_left | apply List.sublist_append_of_sublist_right)) <;> fail))))) w hw)))) .nil | exact .cons (by (first | exact rS M0 | exact wS M0 | exact rS M1 | exact wS M1 | exact rS M2 | exact wS M2 | exact rS M3 | exact wS M3 | exact rS M4 | exact wS M4 | exact rS M5 | exact wS M5 | exact rS M6 | exact wS M6 | exact rS M7 | exact wS M7 | exact rS M8 | exact wS M8 | exact rS M9 | exact wS M9 | exact RdIn.nil | exact (fun w hw => hrK w (Cl.kept (by (first | exact fun _ h => h | exact keepOf (by (((repeat (first | exact List.Sublist.refl _ | exact List.nil_sublist _ | apply List.Sublist.cons_cons | apply List.Sublist.cons | exact List.sublist_append_right _ _ | exact List.sublist_append_left _ _ | apply List.Sublist.append_left | apply List.sublist_append_of_sublist_right)) <;> fail))))) w hw)))) (.blk (.st M0) .nil) | exact .cons (by (first | exact rS M0 | exact wS M0 | exact rS M1 | exact wS M1 | exact rS M2 | exact wS M2 | exact rS M3 | exact wS M3 | exact rS M4 | exact wS M4 | exact rS M5 | exact wS M5 | exact rS M6 | exact wS M6 | exact rS M7 | exact wS M7 | exact rS M8 | exact wS M8 | exact rS M9 | exact wS M9 | exact RdIn.nil | exact (fun w hw => hrK w (Cl.kept (by (first | exact fun _ h => h | exact keepOf (by (((repeat (first | exact List.Sublist.refl _ | exact List.nil_sublist _ | apply List.Sublist.cons_cons | apply List.Sublist.cons | exact List.sublist_append_right _ _ | exact List.sublist_append_left _ _ | apply List.Sublist.append_left | apply List.sublist_append_of_sublist_right)) <;> fail))))) w hw)))) (.blk (.st M1) .nil) | exact .blk (.st M0) .nil | exact .blk (.st M1) .nil | exact .blk (.st M2) .nil | exact .blk (.st M3) .nil | exact .cons (by (first | exact rS M0 | exact wS M0 | exact rS M1 | exact wS M1 | exact rS M2 | exact wS M2 | exact rS M3 | exact wS M3 | exact rS M4 | exact wS M4 | exact rS M5 | exact wS M5 | exact rS M6 | exact wS M6 | exact rS M7 | exact wS M7 | exact rS M8 | exact wS M8 | exact rS M9 | exact wS M9 | exact RdIn.nil | exact (fun w hw => hrK w (Cl.kept (by (first | exact fun _ h => h | exact keepOf (by (((repeat (first | exact List.Sublist.refl _ | exact List.nil_sublist _ | apply List.Sublist.cons_cons | apply List.Sublist.cons | exact List.sublist_append_right _ _ | exact List.sublist_append_left _ _ | apply List.Sublist.append_left | apply List.sublist_append_of_sublist_right)) <;> fail))))) w hw)))) (.cons (by (first | exact rS M0 | exact wS M0 | exact rS M1 | exact wS M1 | exact rS M2 | exact wS M2 | exact rS M3 | exact wS M3 | exact rS M4 | exact wS M4 | exact rS M5 | exact wS M5 | exact rS M6 | exact wS M6 | exact rS M7 | exact wS M7 | exact rS M8 | exact wS M8 | exact rS M9 | exact wS M9 | exact RdIn.nil | exact (fun w hw => hrK w (Cl.kept (by (first | exact fun _ h => h | exact keepOf (by (((repeat (first | exact List.Sublist.refl _ | exact List.nil_sublist _ | apply List.Sublist.cons_cons | apply List.Sublist.cons | exact List.sublist_append_right _ _ | exact List.sublist_append_left _ _ | apply List.Sublist.append_left | apply List.sublist_append_of_sublist_right)) <;> fail))))) w hw)))) .nil) | exact .cons (by (first | exact rS M0 | exact wS M0 | exact rS M1 | exact wS M1 | exact rS M2 | exact wS M2 | exact rS M3 | exact wS M3 | exact rS M4 | exact wS M4 | exact rS M5 | exact wS M5 | exact rS M6 | exact wS M6 | exact rS M7 | exact wS M7 | exact rS M8 | exact wS M8 | exact rS M9 | exact wS M9 | exact RdIn.nil | exact (fun w hw => hrK w (Cl.kept (by (first | exact fun _ h => h | exact keepOf (by (((repeat (first | exact List.Sublist.refl _ | exact List.nil_sublist _ | apply List.Sublist.cons_cons | apply List.Sublist.cons | exact List.sublist_append_right _ _ | exact List.sublist_append_left _ _ | apply List.Sublist.append_left | apply List.sublist_append_of_sublist_right)) <;> fail))))) w hw)))) (.cons (by (first | exact rS M0 | exact wS M0 | exact rS M1 | exact wS M1 | exact rS M2 | exact wS M2 | exact rS M3 | exact wS M3 | exact rS M4 | exact wS M4 | exact rS M5 | exact wS M5 | exact rS M6 | exact wS M6 | exact rS M7 | exact wS M7 | exact rS M8 | exact wS M8 | exact rS M9 | exact wS M9 | exact RdIn.nil | exact (fun w hw => hrK w (Cl.kept (by (first | exact fun _ h => h | exact keepOf (by (((repeat (first | exact List.Sublist.refl _ | exact List.nil_sublist _ | apply List.Sublist.cons_cons | apply List.Sublist.cons | exact List.sublist_append_right _ _ | exact List.sublist_append_left _ _ | apply List.Sublist.append_left | apply List.sublist_append_of_sublist_right)) <;> fail))))) w hw)))) (.cons (by (first | exact rS M0 | exact wS M0 | exact rS M1 | exact wS M1 | exact rS M2 | exact wS M2 | exact rS M3 | exact wS M3 | exact rS M4 | exact wS M4 | exact rS M5 | exact wS M5 | exact rS M6 | exact wS M6 | exact rS M7 | exact wS M7 | exact rS M8 | exact wS M8 | exact rS M9 | exact wS M9 | exact RdIn.nil | exact (fun w hw => hrK w (Cl.kept (by (first | exact fun _ h => h | exact keepOf (by (((repeat (first | exact List.Sublist.refl _ | exact List.nil_sublist _ | apply List.Sublist.cons_cons | apply List.Sublist.cons | exact List.sublist_append_right _ _ | exact List.sublist_append_left _ _ | apply List.Sublist.append_left | apply List.sublist_append_of_sublist_right)) <;> fail))))) w hw)))) .nil)))) (fun hg => p_Head (by omega) (by omega)) .all ?_
  first | refine At.e rfl rfl rfl rfl .all (R.addI (.t rfl) .c (fun hg => by first | omega | (simp [-List.length_eq_zero_iff] at hg; omega))) ?_ | refine At.e rfl rfl rfl rfl .all (R.add (.t rfl) .c) ?_
  refine At.e rfl rfl rfl rfl .all (R.assign (.t rfl)) ?_
  refine At.nil ?_
  refine At.tN ?_
  refine At.ret ?_
  exact At.final rfl (.t rfl) (List.nil_sublist _) (⟨congrArg (Value.int .i64) (by omega), rfl, rfl⟩)

theorem p_Top {a b c d : Int} (h0 : 0 ≤ a) (h1 : a ≤ 1000000) (h2 : 0 ≤ b) (h3 : b ≤ 1000000) : Fn Try.prog 22 [.agg #[.int .i64 a, .int .i64 b, .int .i64 c, .int .i64 d]] ([]) ([]) (IsV (.int .i64 (21 + a + 3 * b))) := by
  refine Fn.enter Try.func22 (by kernel_rfl) rfl (n := 8) rfl rfl (fun w => ?_)
  refine At.seq ?_
  refine At.plain [(false, 0), (false, 1)] rfl ?_
  refine At.box rfl rfl rfl (.t rfl) (fun b1 hb1 => ⟨.all, ?_⟩)
  refine At.e rfl rfl rfl rfl .all (R.assign .c) ?_
  refine At.nil ?_
  refine At.tN ?_
  refine At.seq ?_
  refine At.drawK [(true, 0), (true, 2), (false, 1), (false, 3), (true, 4), (true, 5)] (by kernel_rfl) (by kernel_rfl) ?_
  refine At.s rfl rfl rfl rfl (Cl.kept fun _ h => h) (R.loadAgg (vs := [_, _, _, _]) Try.underlying26 rfl sz_26 (.t rfl) (by first | exact csK M0 ⟨rfl, rfl, rfl, rfl, trivial⟩ | exact csK M1 ⟨rfl, rfl, rfl, rfl, trivial⟩ | exact csK M2 ⟨rfl, rfl, rfl, rfl, trivial⟩ | exact csK M3 ⟨rfl, rfl, rfl, rfl, trivial⟩ | exact csK M4 ⟨rfl, rfl, rfl, rfl, trivial⟩ | exact csK M5 ⟨rfl, rfl, rfl, rfl, trivial⟩ | exact csK M6 ⟨rfl, rfl, rfl, rfl, trivial⟩ | exact csK M7 ⟨rfl, rfl, rfl, rfl, trivial⟩)) ?_
  refine At.s rfl rfl rfl rfl (Cl.kept fun _ h => h) (R.loadAgg (vs := [_, _, _, _]) Try.underlying26 rfl sz_26 (.t rfl) (by first | exact csK M0 ⟨rfl, rfl, rfl, rfl, trivial⟩ | exact csK M1 ⟨rfl, rfl, rfl, rfl, trivial⟩ | exact csK M2 ⟨rfl, rfl, rfl, rfl, trivial⟩ | exact csK M3 ⟨rfl, rfl, rfl, rfl, trivial⟩ | exact csK M4 ⟨rfl, rfl, rfl, rfl, trivial⟩ | exact csK M5 ⟨rfl, rfl, rfl, rfl, trivial⟩ | exact csK M6 ⟨rfl, rfl, rfl, rfl, trivial⟩ | exact csK M7 ⟨rfl, rfl, rfl, rfl, trivial⟩)) ?_
  refine At.callVR rfl rfl rfl (.cons (.t rfl) .nil) (by (first | exact .nil | exact .cons (by (first | exact rS M0 | exact wS M0 | exact rS M1 | exact wS M1 | exact rS M2 | exact wS M2 | exact rS M3 | exact wS M3 | exact rS M4 | exact wS M4 | exact rS M5 | exact wS M5 | exact rS M6 | exact wS M6 | exact rS M7 | exact wS M7 | exact rS M8 | exact wS M8 | exact rS M9 | exact wS M9 | exact RdIn.nil | exact (fun w hw => hrK w (Cl.kept (by (first | exact fun _ h => h | exact keepOf (by (((repeat (first | exact List.Sublist.refl _ | exact List.nil_sublist _ | apply List.Sublist.cons_cons | apply List.Sublist.cons | exact List.sublist_append_right _ _ | exact List.sublist_append_left _ _ | apply List.Sublist.append_left | apply List.sublist_append_of_sublist_right)) <;> fail))))) w hw)))) .nil | exact .cons (by (first | exact rS M0 | exact wS M0 | exact rS M1 | exact wS M1 | exact rS M2 | exact wS M2 | exact rS M3 | exact wS M3 | exact rS M4 | exact wS M4 | exact rS M5 | exact wS M5 | exact rS M6 | exact wS M6 | exact rS M7 | exact wS M7 | exact rS M8 | exact wS M8 | exact rS M9 | exact wS M9 | exact RdIn.nil | exact (fun w hw => hrK w (Cl.kept (by (first | exact fun _ h => h | exact keepOf (by (((repeat (first | exact List.Sublist.refl _ | exact List.nil_sublist _ | apply List.Sublist.cons_cons | apply List.Sublist.cons | exact List.sublist_append_right _ _ | exact List.sublist_append_left _ _ | apply List.Sublist.append_left | apply List.sublist_append_of_sublist_right)) <;> fail))))) w hw)))) (.blk (.st M0) .nil) | exact .cons (by (first | exact rS M0 | exact wS M0 | exact rS M1 | exact wS M1 | exact rS M2 | exact wS M2 | exact rS M3 | exact wS M3 | exact rS M4 | exact wS M4 | exact rS M5 | exact wS M5 | exact rS M6 | exact wS M6 | exact rS M7 | exact wS M7 | exact rS M8 | exact wS M8 | exact rS M9 | exact wS M9 | exact RdIn.nil | exact (fun w hw => hrK w (Cl.kept (by (first | exact fun _ h => h | exact keepOf (by (((repeat (first | exact List.Sublist.refl _ | exact List.nil_sublist _ | apply List.Sublist.cons_cons | apply List.Sublist.cons | exact List.sublist_append_right _ _ | exact List.sublist_append_left _ _ | apply List.Sublist.append_left | apply List.sublist_append_of_sublist_right)) <;> fail))))) w hw)))) (.blk (.st M1) .nil) | exact .blk (.st M0) .nil | exact .blk (.st M1) .nil | exact .blk (.st M2) .nil | exact .blk (.st M3) .nil | exact .cons (by (first | exact rS M0 | exact wS M0 | exact rS M1 | exact wS M1 | exact rS M2 | exact wS M2 | exact rS M3 | exact wS M3 | exact rS M4 | exact wS M4 | exact rS M5 | exact wS M5 | exact rS M6 | exact wS M6 | exact rS M7 | exact wS M7 | exact rS M8 | exact wS M8 | exact rS M9 | exact wS M9 | exact RdIn.nil | exact (fun w hw => hrK w (Cl.kept (by (first | exact fun _ h => h | exact keepOf (by (((repeat (first | exact List.Sublist.refl _ | exact List.nil_sublist _ | apply List.Sublist.cons_cons | apply List.Sublist.cons | exact List.sublist_append_right _ _ | exact List.sublist_append_left _ _ | apply List.Sublist.append_left | apply List.sublist_append_of_sublist_right)) <;> fail))))) w hw)))) (.cons (by (first | exact rS M0 | exact wS M0 | exact rS M1 | exact wS M1 | exact rS M2 | exact wS M2 | exact rS M3 | exact wS M3 | exact rS M4 | exact wS M4 | exact rS M5 | exact wS M5 | exact rS M6 | exact wS M6 | exact rS M7 | exact wS M7 | exact rS M8 | exact wS M8 | exact rS M9 | exact wS M9 | exact RdIn.nil | exact (fun w hw => hrK w (Cl.kept (by (first | exact fun _ h => h | exact keepOf (by (((repeat (first | exact List.Sublist.refl _ | exact List.nil_sublist _ | apply List.Sublist.cons_cons | apply List.Sublist.cons | exact List.sublist_append_right _ _ | exact List.sublist_append_left _ _ | apply List.Sublist.append_left | apply List.sublist_append_of_sublist_right)) <;> fail))))) w hw)))) .nil) | exact .cons (by (first | exact rS M0 | exact wS M0 | exact rS M1 | exact wS M1 | exact rS M2 | exact wS M2 | exact rS M3 | exact wS M3 | exact rS M4 | exact wS M4 | exact rS M5 | exact wS M5 | exact rS M6 | exact wS M6 | exact rS M7 | exact wS M7 | exact rS M8 | exact wS M8 | exact rS M9 | exact wS M9 | exact RdIn.nil | exact (fun w hw => hrK w (Cl.kept (by (first | exact fun _ h => h | exact keepOf (by (((repeat (first | exact List.Sublist.refl _ | exact List.nil_sublist _ | apply List.Sublist.cons_cons | apply List.Sublist.cons | exact List.sublist_append_right _ _ | exact List.sublist_append_left _ _ | apply List.Sublist.append_left | apply List.sublist_append_of_sublist_right)) <;> fail))))) w hw)))) (.cons (by (first | exact rS M0 | exact wS M0 | exact rS M1 | exact wS M1 | exact rS M2 | exact wS M2 | exact rS M3 | exact wS M3 | exact rS M4 | exact wS M4 | exact rS M5 | exact wS M5 | exact rS M6 | exact wS M6 | exact rS M7 | exact wS M7 | exact rS M8 | exact wS M8 | exact rS M9 | exact wS M9 | exact RdIn.nil | exact (fun w hw => hrK w (Cl.kept (by (first | exact fun _ h => h | exact keepOf (by (((repeat (first | exact List.Sublist.refl _ | exact List.nil_sublist _ | apply List.Sublist.cons_cons | apply List.Sublist.cons | exact List.sublist_append_right _ _ | exact List.sublist_append_left _ _ | apply List.Sublist.append_left | apply List.sublist_append_of_sublist_right)) <;> fail))))) w hw)))) (.cons (by (first | exact rS M0 | exact wS M0 | exact rS M1 | exact wS M1 | exact rS M2 | exact wS M2 | exact rS M3 | exact wS M3 | exact rS M4 | exact wS M4 | exact rS M5 | exact wS M5 | exact rS M6 | exact wS M6 | exact rS M7 | exact wS M7 | exact rS M8 | exact wS M8 | exact rS M9 | exact wS M9 | exact RdIn.nil | exact (fun w hw => hrK w (Cl.kept (by (first | exact fun _ h => h | exact keepOf (by (((repeat (first | exact List.Sublist.refl _ | exact List.nil_sublist _ | apply List.Sublist.cons_cons | apply List.Sublist.cons | exact List.sublist_append_right _ _ | exact List.sublist_append_left _ _ | apply List.Sublist.append_left | apply List.sublist_append_of_sublist_right)) <;> fail))))) w hw)))) .nil)))) (fun hg => p_First (by omega) (by omega)) (Cl.kept (by (first | exact fun _ h => h | exact keepOf (by (((repeat (first | exact List.Sublist.refl _ | exact List.nil_sublist _ | apply List.Sublist.cons_cons | apply List.Sublist.cons | exact List.sublist_append_right _ _ | exact List.sublist_append_left _ _ | apply List.Sublist.append_left | apply List.sublist_append_of_sublist_right)) <;> fail)))))) ?_
  refine At.callVR rfl rfl rfl (.cons (.t rfl) .nil) (by (first | exact .nil | exact .cons (by (first | exact rS M0 | exact wS M0 | exact rS M1 | exact wS M1 | exact rS M2 | exact wS M2 | exact rS M3 | exact wS M3 | exact rS M4 | exact wS M4 | exact rS M5 | exact wS M5 | exact rS M6 | exact wS M6 | exact rS M7 | exact wS M7 | exact rS M8 | exact wS M8 | exact rS M9 | exact wS M9 | exact RdIn.nil | exact (fun w hw => hrK w (Cl.kept (by (first | exact fun _ h => h | exact keepOf (by (((repeat (first | exact List.Sublist.refl _ | exact List.nil_sublist _ | apply List.Sublist.cons_cons | apply List.Sublist.cons | exact List.sublist_append_right _ _ | exact List.sublist_append_left _ _ | apply List.Sublist.append_left | apply List.sublist_append_of_sublist_right)) <;> fail))))) w hw)))) .nil | exact .cons (by (first | exact rS M0 | exact wS M0 | exact rS M1 | exact wS M1 | exact rS M2 | exact wS M2 | exact rS M3 | exact wS M3 | exact rS M4 | exact wS M4 | exact rS M5 | exact wS M5 | exact rS M6 | exact wS M6 | exact rS M7 | exact wS M7 | exact rS M8 | exact wS M8 | exact rS M9 | exact wS M9 | exact RdIn.nil | exact (fun w hw => hrK w (Cl.kept (by (first | exact fun _ h => h | exact keepOf (by (((repeat (first | exact List.Sublist.refl _ | exact List.nil_sublist _ | apply List.Sublist.cons_cons | apply List.Sublist.cons | exact List.sublist_append_right _ _ | exact List.sublist_append_left _ _ | apply List.Sublist.append_left | apply List.sublist_append_of_sublist_right)) <;> fail))))) w hw)))) (.blk (.st M0) .nil) | exact .cons (by (first | exact rS M0 | exact wS M0 | exact rS M1 | exact wS M1 | exact rS M2 | exact wS M2 | exact rS M3 | exact wS M3 | exact rS M4 | exact wS M4 | exact rS M5 | exact wS M5 | exact rS M6 | exact wS M6 | exact rS M7 | exact wS M7 | exact rS M8 | exact wS M8 | exact rS M9 | exact wS M9 | exact RdIn.nil | exact (fun w hw => hrK w (Cl.kept (by (first | exact fun _ h => h | exact keepOf (by (((repeat (first | exact List.Sublist.refl _ | exact List.nil_sublist _ | apply List.Sublist.cons_cons | apply List.Sublist.cons | exact List.sublist_append_right _ _ | exact List.sublist_append_left _ _ | apply List.Sublist.append_left | apply List.sublist_append_of_sublist_right)) <;> fail))))) w hw)))) (.blk (.st M1) .nil) | exact .blk (.st M0) .nil | exact .blk (.st M1) .nil | exact .blk (.st M2) .nil | exact .blk (.st M3) .nil | exact .cons (by (first | exact rS M0 | exact wS M0 | exact rS M1 | exact wS M1 | exact rS M2 | exact wS M2 | exact rS M3 | exact wS M3 | exact rS M4 | exact wS M4 | exact rS M5 | exact wS M5 | exact rS M6 | exact wS M6 | exact rS M7 | exact wS M7 | exact rS M8 | exact wS M8 | exact rS M9 | exact wS M9 | exact RdIn.nil | exact (fun w hw => hrK w (Cl.kept (by (first | exact fun _ h => h | exact keepOf (by (((repeat (first | exact List.Sublist.refl _ | exact List.nil_sublist _ | apply List.Sublist.cons_cons | apply List.Sublist.cons | exact List.sublist_append_right _ _ | exact List.sublist_append_left _ _ | apply List.Sublist.append_left | apply List.sublist_append_of_sublist_right)) <;> fail))))) w hw)))) (.cons (by (first | exact rS M0 | exact wS M0 | exact rS M1 | exact wS M1 | exact rS M2 | exact wS M2 | exact rS M3 | exact wS M3 | exact rS M4 | exact wS M4 | exact rS M5 | exact wS M5 | exact rS M6 | exact wS M6 | exact rS M7 | exact wS M7 | exact rS M8 | exact wS M8 | exact rS M9 | exact wS M9 | exact RdIn.nil | exact (fun w hw => hrK w (Cl.kept (by (first | exact fun _ h => h | exact keepOf (by (((repeat (first | exact List.Sublist.refl _ | exact List.nil_sublist _ | apply List.Sublist.cons_cons | apply List.Sublist.cons | exact List.sublist_append_right _ _ | exact List.sublist_append_left _ _ | apply List.Sublist.append_left | apply List.sublist_append_of_sublist_right)) <;> fail))))) w hw)))) .nil) | exact .cons (by (first | exact rS M0 | exact wS M0 | exact rS M1 | exact wS M1 | exact rS M2 | exact wS M2 | exact rS M3 | exact wS M3 | exact rS M4 | exact wS M4 | exact rS M5 | exact wS M5 | exact rS M6 | exact wS M6 | exact rS M7 | exact wS M7 | exact rS M8 | exact wS M8 | exact rS M9 | exact wS M9 | exact RdIn.nil | exact (fun w hw => hrK w (Cl.kept (by (first | exact fun _ h => h | exact keepOf (by (((repeat (first | exact List.Sublist.refl _ | exact List.nil_sublist _ | apply List.Sublist.cons_cons | apply List.Sublist.cons | exact List.sublist_append_right _ _ | exact List.sublist_append_left _ _ | apply List.Sublist.append_left | apply List.sublist_append_of_sublist_right)) <;> fail))))) w hw)))) (.cons (by (first | exact rS M0 | exact wS M0 | exact rS M1 | exact wS M1 | exact rS M2 | exact wS M2 | exact rS M3 | exact wS M3 | exact rS M4 | exact wS M4 | exact rS M5 | exact wS M5 | exact rS M6 | exact wS M6 | exact rS M7 | exact wS M7 | exact rS M8 | exact wS M8 | exact rS M9 | exact wS M9 | exact RdIn.nil | exact (fun w hw => hrK w (Cl.kept (by (first | exact fun _ h => h | exact keepOf (by (((repeat (first | exact List.Sublist.refl _ | exact List.nil_sublist _ | apply List.Sublist.cons_cons | apply List.Sublist.cons | exact List.sublist_append_right _ _ | exact List.sublist_append_left _ _ | apply List.Sublist.append_left | apply List.sublist_append_of_sublist_right)) <;> fail))))) w hw)))) (.cons (by (first | exact rS M0 | exact wS M0 | exact rS M1 | exact wS M1 | exact rS M2 | exact wS M2 | exact rS M3 | exact wS M3 | exact rS M4 | exact wS M4 | exact rS M5 | exact wS M5 | exact rS M6 | exact wS M6 | exact rS M7 | exact wS M7 | exact rS M8 | exact wS M8 | exact rS M9 | exact wS M9 | exact RdIn.nil | exact (fun w hw => hrK w (Cl.kept (by (first | exact fun _ h => h | exact keepOf (by (((repeat (first | exact List.Sublist.refl _ | exact List.nil_sublist _ | apply List.Sublist.cons_cons | apply List.Sublist.cons | exact List.sublist_append_right _ _ | exact List.sublist_append_left _ _ | apply List.Sublist.append_left | apply List.sublist_append_of_sublist_right)) <;> fail))))) w hw)))) .nil)))) (fun hg => p_Size (by omega) (by omega)) (Cl.kept (by (first | exact fun _ h => h | exact keepOf (by (((repeat (first | exact List.Sublist.refl _ | exact List.nil_sublist _ | apply List.Sublist.cons_cons | apply List.Sublist.cons | exact List.sublist_append_right _ _ | exact List.sublist_append_left _ _ | apply List.Sublist.append_left | apply List.sublist_append_of_sublist_right)) <;> fail)))))) ?_
  first | refine At.s rfl rfl rfl rfl (Cl.kept (by (first | exact fun _ h => h | exact keepOf (by (((repeat (first | exact List.Sublist.refl _ | exact List.nil_sublist _ | apply List.Sublist.cons_cons | apply List.Sublist.cons | exact List.sublist_append_right _ _ | exact List.sublist_append_left _ _ | apply List.Sublist.append_left | apply List.sublist_append_of_sublist_right)) <;> fail)))))) (R.addI (.t rfl) (.t rfl) (fun hg => by first | omega | (simp [-List.length_eq_zero_iff] at hg; omega))) ?_ | refine At.s rfl rfl rfl rfl (Cl.kept (by (first | exact fun _ h => h | exact keepOf (by (((repeat (first | exact List.Sublist.refl _ | exact List.nil_sublist _ | apply List.Sublist.cons_cons | apply List.Sublist.cons | exact List.sublist_append_right _ _ | exact List.sublist_append_left _ _ | apply List.Sublist.append_left | apply List.sublist_append_of_sublist_right)) <;> fail)))))) (R.add (.t rfl) (.t rfl)) ?_
  refine At.s rfl rfl rfl rfl (Cl.kept (by (first | exact fun _ h => h | exact keepOf (by (((repeat (first | exact List.Sublist.refl _ | exact List.nil_sublist _ | apply List.Sublist.cons_cons | apply List.Sublist.cons | exact List.sublist_append_right _ _ | exact List.sublist_append_left _ _ | apply List.Sublist.append_left | apply List.sublist_append_of_sublist_right)) <;> fail)))))) (R.assign (.t rfl)) ?_
  refine At.nil ?_
  refine At.tN ?_
  refine At.ret ?_
  exact At.final rfl (.t rfl) (List.nil_sublist _) (⟨congrArg (Value.int .i64) (by omega), rfl, rfl⟩)

theorem p_State {s i : Int} (h0 : -1000000000 ≤ s ∧ s ≤ 1000000000) (h1 : -1000000 ≤ i ∧ i ≤ 1000000) : Fn Try.prog 10 [.int .i64 s, .int .i64 i] ([]) ([]) (IsV (.int .i64 (s + 7 + 3 * i))) := by
  refine Fn.enter Try.func10 (by kernel_rfl) rfl (n := 10) rfl rfl (fun w => ?_)
  refine At.seq ?_
  refine At.plain [(false, 0)] rfl ?_
  refine At.e rfl rfl rfl rfl .all (R.assign .c) ?_
  refine At.nil ?_
  refine At.tN ?_
  refine At.seq ?_
  refine At.plain [(false, 0), (false, 1), (false, 2), (false, 3), (false, 4), (false, 5)] rfl ?_
  refine At.e rfl rfl rfl rfl .all (R.move (.t rfl)) ?_
  first | refine At.e rfl rfl rfl rfl .all (R.addI (.t rfl) .c (fun hg => by first | omega | (simp [-List.length_eq_zero_iff] at hg; omega))) ?_ | refine At.e rfl rfl rfl rfl .all (R.add (.t rfl) .c) ?_
  refine At.e rfl rfl rfl rfl .all (R.move (.t rfl)) ?_
  first | refine At.e rfl rfl rfl rfl .all (R.mulI .c (.t rfl) (fun hg => by first | omega | (simp [-List.length_eq_zero_iff] at hg; omega))) ?_ | refine At.e rfl rfl rfl rfl .all (R.mul .c (.t rfl)) ?_
  first | refine At.e rfl rfl rfl rfl .all (R.addI (.t rfl) (.t rfl) (fun hg => by first | omega | (simp [-List.length_eq_zero_iff] at hg; omega))) ?_ | refine At.e rfl rfl rfl rfl .all (R.add (.t rfl) (.t rfl)) ?_
  refine At.e rfl rfl rfl rfl .all (R.assign (.t rfl)) ?_
  refine At.nil ?_
  refine At.tN ?_
  refine At.ret ?_
  exact At.final rfl (.t rfl) (List.nil_sublist _) (⟨congrArg (Value.int .i64) (by omega), rfl, rfl⟩)

theorem w_held {x y z : Int} : Fn Try.prog 49 [.int .i64 x, .int .i64 y, .int .i64 z] ([]) ([]) (IsV (.int .i64 (min (max x y) z))) := by
  refine Fn.enter Try.func49 (by kernel_rfl) rfl (n := 12) rfl rfl (fun w => ?_)
  refine At.seq ?_
  refine At.plain [(false, 0)] rfl ?_
  refine At.e rfl rfl rfl rfl .all (R.assign .c) ?_
  refine At.nil ?_
  refine At.tN ?_
  refine At.seq ?_
  refine At.plain [(false, 0), (false, 1), (false, 2), (false, 3), (false, 4), (false, 5)] rfl ?_
  refine At.e rfl rfl rfl rfl .all (R.move (.t rfl)) ?_
  refine At.e rfl rfl rfl rfl .all (R.move (.t rfl)) ?_
  refine At.e rfl rfl rfl rfl .all (R.max2 (.t rfl) (.t rfl)) ?_
  refine At.e rfl rfl rfl rfl .all (R.move (.t rfl)) ?_
  refine At.e rfl rfl rfl rfl .all (R.min2 (.t rfl) (.t rfl)) ?_
  refine At.e rfl rfl rfl rfl .all (R.assign (.t rfl)) ?_
  refine At.nil ?_
  refine At.tN ?_
  refine At.ret ?_
  exact At.final rfl (.t rfl) (List.nil_sublist _) (⟨rfl, rfl, rfl⟩)

theorem r_held {x y z : Int} : Fn Try.prog 34 [.int .i64 x, .int .i64 y, .int .i64 z] ([]) ([]) (IsV (.int .i64 (max y (min x z)))) := by
  refine Fn.enter Try.func34 (by kernel_rfl) rfl (n := 12) rfl rfl (fun w => ?_)
  refine At.seq ?_
  refine At.plain [(false, 0)] rfl ?_
  refine At.e rfl rfl rfl rfl .all (R.assign .c) ?_
  refine At.nil ?_
  refine At.tN ?_
  refine At.seq ?_
  refine At.plain [(false, 0), (false, 1), (false, 2), (false, 3), (false, 4), (false, 5)] rfl ?_
  refine At.e rfl rfl rfl rfl .all (R.move (.t rfl)) ?_
  refine At.e rfl rfl rfl rfl .all (R.move (.t rfl)) ?_
  refine At.e rfl rfl rfl rfl .all (R.move (.t rfl)) ?_
  refine At.e rfl rfl rfl rfl .all (R.min2 (.t rfl) (.t rfl)) ?_
  refine At.e rfl rfl rfl rfl .all (R.max2 (.t rfl) (.t rfl)) ?_
  refine At.e rfl rfl rfl rfl .all (R.assign (.t rfl)) ?_
  refine At.nil ?_
  refine At.tN ?_
  refine At.ret ?_
  exact At.final rfl (.t rfl) (List.nil_sublist _) (⟨rfl, rfl, rfl⟩)

theorem w_State {s : Int} : Fn Try.prog 31 [.int .i64 s] ([]) ([]) (IsV (.int .i64 (min (max s 0) 16777212 + 3))) := by
  refine Fn.enter Try.func31 (by kernel_rfl) rfl (n := 6) rfl rfl (fun w => ?_)
  refine At.seq ?_
  refine At.plain [(false, 0)] rfl ?_
  refine At.e rfl rfl rfl rfl .all (R.assign .c) ?_
  refine At.nil ?_
  refine At.tN ?_
  refine At.seq ?_
  refine At.plain [(false, 0), (false, 1), (false, 2), (false, 3)] rfl ?_
  refine At.e rfl rfl rfl rfl .all (R.move (.t rfl)) ?_
  refine At.callVR rfl rfl rfl (.cons (.t rfl) (.cons .c (.cons .c .nil))) (by (first | exact .nil | exact .cons (by (first | exact rS M0 | exact wS M0 | exact rS M1 | exact wS M1 | exact rS M2 | exact wS M2 | exact rS M3 | exact wS M3 | exact rS M4 | exact wS M4 | exact rS M5 | exact wS M5 | exact rS M6 | exact wS M6 | exact rS M7 | exact wS M7 | exact rS M8 | exact wS M8 | exact rS M9 | exact wS M9 | exact RdIn.nil | exact (fun w hw => hrK w (Cl.kept (by (first | exact fun _ h => h | exact keepOf (by (((repeat (first | exact List.Sublist.refl _ | exact List.nil_sublist _ | apply List.Sublist.cons_cons | apply List.Sublist.cons | exact List.sublist_append_right _ _ | exact List.sublist_append_left _ _ | apply List.Sublist.append_left | apply List.sublist_append_of_sublist_right)) <;> fail))))) w hw)))) .nil | exact .cons (by (first | exact rS M0 | exact wS M0 | exact rS M1 | exact wS M1 | exact rS M2 | exact wS M2 | exact rS M3 | exact wS M3 | exact rS M4 | exact wS M4 | exact rS M5 | exact wS M5 | exact rS M6 | exact wS M6 | exact rS M7 | exact wS M7 | exact rS M8 | exact wS M8 | exact rS M9 | exact wS M9 | exact RdIn.nil | exact (fun w hw => hrK w (Cl.kept (by (first | exact fun _ h => h | exact keepOf (by (((repeat (first | exact List.Sublist.refl _ | exact List.nil_sublist _ | apply List.Sublist.cons_cons | apply List.Sublist.cons | exact List.sublist_append_right _ _ | exact List.sublist_append_left _ _ | apply List.Sublist.append_left | apply List.sublist_append_of_sublist_right)) <;> fail))))) w hw)))) (.blk (.st M0) .nil) | exact .cons (by (first | exact rS M0 | exact wS M0 | exact rS M1 | exact wS M1 | exact rS M2 | exact wS M2 | exact rS M3 | exact wS M3 | exact rS M4 | exact wS M4 | exact rS M5 | exact wS M5 | exact rS M6 | exact wS M6 | exact rS M7 | exact wS M7 | exact rS M8 | exact wS M8 | exact rS M9 | exact wS M9 | exact RdIn.nil | exact (fun w hw => hrK w (Cl.kept (by (first | exact fun _ h => h | exact keepOf (by (((repeat (first | exact List.Sublist.refl _ | exact List.nil_sublist _ | apply List.Sublist.cons_cons | apply List.Sublist.cons | exact List.sublist_append_right _ _ | exact List.sublist_append_left _ _ | apply List.Sublist.append_left | apply List.sublist_append_of_sublist_right)) <;> fail))))) w hw)))) (.blk (.st M1) .nil) | exact .blk (.st M0) .nil | exact .blk (.st M1) .nil | exact .blk (.st M2) .nil | exact .blk (.st M3) .nil | exact .cons (by (first | exact rS M0 | exact wS M0 | exact rS M1 | exact wS M1 | exact rS M2 | exact wS M2 | exact rS M3 | exact wS M3 | exact rS M4 | exact wS M4 | exact rS M5 | exact wS M5 | exact rS M6 | exact wS M6 | exact rS M7 | exact wS M7 | exact rS M8 | exact wS M8 | exact rS M9 | exact wS M9 | exact RdIn.nil | exact (fun w hw => hrK w (Cl.kept (by (first | exact fun _ h => h | exact keepOf (by (((repeat (first | exact List.Sublist.refl _ | exact List.nil_sublist _ | apply List.Sublist.cons_cons | apply List.Sublist.cons | exact List.sublist_append_right _ _ | exact List.sublist_append_left _ _ | apply List.Sublist.append_left | apply List.sublist_append_of_sublist_right)) <;> fail))))) w hw)))) (.cons (by (first | exact rS M0 | exact wS M0 | exact rS M1 | exact wS M1 | exact rS M2 | exact wS M2 | exact rS M3 | exact wS M3 | exact rS M4 | exact wS M4 | exact rS M5 | exact wS M5 | exact rS M6 | exact wS M6 | exact rS M7 | exact wS M7 | exact rS M8 | exact wS M8 | exact rS M9 | exact wS M9 | exact RdIn.nil | exact (fun w hw => hrK w (Cl.kept (by (first | exact fun _ h => h | exact keepOf (by (((repeat (first | exact List.Sublist.refl _ | exact List.nil_sublist _ | apply List.Sublist.cons_cons | apply List.Sublist.cons | exact List.sublist_append_right _ _ | exact List.sublist_append_left _ _ | apply List.Sublist.append_left | apply List.sublist_append_of_sublist_right)) <;> fail))))) w hw)))) .nil) | exact .cons (by (first | exact rS M0 | exact wS M0 | exact rS M1 | exact wS M1 | exact rS M2 | exact wS M2 | exact rS M3 | exact wS M3 | exact rS M4 | exact wS M4 | exact rS M5 | exact wS M5 | exact rS M6 | exact wS M6 | exact rS M7 | exact wS M7 | exact rS M8 | exact wS M8 | exact rS M9 | exact wS M9 | exact RdIn.nil | exact (fun w hw => hrK w (Cl.kept (by (first | exact fun _ h => h | exact keepOf (by (((repeat (first | exact List.Sublist.refl _ | exact List.nil_sublist _ | apply List.Sublist.cons_cons | apply List.Sublist.cons | exact List.sublist_append_right _ _ | exact List.sublist_append_left _ _ | apply List.Sublist.append_left | apply List.sublist_append_of_sublist_right)) <;> fail))))) w hw)))) (.cons (by (first | exact rS M0 | exact wS M0 | exact rS M1 | exact wS M1 | exact rS M2 | exact wS M2 | exact rS M3 | exact wS M3 | exact rS M4 | exact wS M4 | exact rS M5 | exact wS M5 | exact rS M6 | exact wS M6 | exact rS M7 | exact wS M7 | exact rS M8 | exact wS M8 | exact rS M9 | exact wS M9 | exact RdIn.nil | exact (fun w hw => hrK w (Cl.kept (by (first | exact fun _ h => h | exact keepOf (by (((repeat (first | exact List.Sublist.refl _ | exact List.nil_sublist _ | apply List.Sublist.cons_cons | apply List.Sublist.cons | exact List.sublist_append_right _ _ | exact List.sublist_append_left _ _ | apply List.Sublist.append_left | apply List.sublist_append_of_sublist_right)) <;> fail))))) w hw)))) (.cons (by (first | exact rS M0 | exact wS M0 | exact rS M1 | exact wS M1 | exact rS M2 | exact wS M2 | exact rS M3 | exact wS M3 | exact rS M4 | exact wS M4 | exact rS M5 | exact wS M5 | exact rS M6 | exact wS M6 | exact rS M7 | exact wS M7 | exact rS M8 | exact wS M8 | exact rS M9 | exact wS M9 | exact RdIn.nil | exact (fun w hw => hrK w (Cl.kept (by (first | exact fun _ h => h | exact keepOf (by (((repeat (first | exact List.Sublist.refl _ | exact List.nil_sublist _ | apply List.Sublist.cons_cons | apply List.Sublist.cons | exact List.sublist_append_right _ _ | exact List.sublist_append_left _ _ | apply List.Sublist.append_left | apply List.sublist_append_of_sublist_right)) <;> fail))))) w hw)))) .nil)))) (fun hg => w_held) .all ?_
  first | refine At.e rfl rfl rfl rfl .all (R.addI (.t rfl) .c (fun hg => by first | omega | (simp [-List.length_eq_zero_iff] at hg; omega))) ?_ | refine At.e rfl rfl rfl rfl .all (R.add (.t rfl) .c) ?_
  refine At.e rfl rfl rfl rfl .all (R.assign (.t rfl)) ?_
  refine At.nil ?_
  refine At.tN ?_
  refine At.ret ?_
  exact At.final rfl (.t rfl) (List.nil_sublist _) (⟨rfl, rfl, rfl⟩)

theorem r_State {s : Int} : Fn Try.prog 16 [.int .i64 s] ([]) ([]) (IsV (.int .i64 (min (max s 0) 16777212 + 3))) := by
  refine Fn.enter Try.func16 (by kernel_rfl) rfl (n := 6) rfl rfl (fun w => ?_)
  refine At.seq ?_
  refine At.plain [(false, 0)] rfl ?_
  refine At.e rfl rfl rfl rfl .all (R.assign .c) ?_
  refine At.nil ?_
  refine At.tN ?_
  refine At.seq ?_
  refine At.plain [(false, 0), (false, 1), (false, 2), (false, 3)] rfl ?_
  refine At.e rfl rfl rfl rfl .all (R.move (.t rfl)) ?_
  refine At.callVR rfl rfl rfl (.cons (.t rfl) (.cons .c (.cons .c .nil))) (by (first | exact .nil | exact .cons (by (first | exact rS M0 | exact wS M0 | exact rS M1 | exact wS M1 | exact rS M2 | exact wS M2 | exact rS M3 | exact wS M3 | exact rS M4 | exact wS M4 | exact rS M5 | exact wS M5 | exact rS M6 | exact wS M6 | exact rS M7 | exact wS M7 | exact rS M8 | exact wS M8 | exact rS M9 | exact wS M9 | exact RdIn.nil | exact (fun w hw => hrK w (Cl.kept (by (first | exact fun _ h => h | exact keepOf (by (((repeat (first | exact List.Sublist.refl _ | exact List.nil_sublist _ | apply List.Sublist.cons_cons | apply List.Sublist.cons | exact List.sublist_append_right _ _ | exact List.sublist_append_left _ _ | apply List.Sublist.append_left | apply List.sublist_append_of_sublist_right)) <;> fail))))) w hw)))) .nil | exact .cons (by (first | exact rS M0 | exact wS M0 | exact rS M1 | exact wS M1 | exact rS M2 | exact wS M2 | exact rS M3 | exact wS M3 | exact rS M4 | exact wS M4 | exact rS M5 | exact wS M5 | exact rS M6 | exact wS M6 | exact rS M7 | exact wS M7 | exact rS M8 | exact wS M8 | exact rS M9 | exact wS M9 | exact RdIn.nil | exact (fun w hw => hrK w (Cl.kept (by (first | exact fun _ h => h | exact keepOf (by (((repeat (first | exact List.Sublist.refl _ | exact List.nil_sublist _ | apply List.Sublist.cons_cons | apply List.Sublist.cons | exact List.sublist_append_right _ _ | exact List.sublist_append_left _ _ | apply List.Sublist.append_left | apply List.sublist_append_of_sublist_right)) <;> fail))))) w hw)))) (.blk (.st M0) .nil) | exact .cons (by (first | exact rS M0 | exact wS M0 | exact rS M1 | exact wS M1 | exact rS M2 | exact wS M2 | exact rS M3 | exact wS M3 | exact rS M4 | exact wS M4 | exact rS M5 | exact wS M5 | exact rS M6 | exact wS M6 | exact rS M7 | exact wS M7 | exact rS M8 | exact wS M8 | exact rS M9 | exact wS M9 | exact RdIn.nil | exact (fun w hw => hrK w (Cl.kept (by (first | exact fun _ h => h | exact keepOf (by (((repeat (first | exact List.Sublist.refl _ | exact List.nil_sublist _ | apply List.Sublist.cons_cons | apply List.Sublist.cons | exact List.sublist_append_right _ _ | exact List.sublist_append_left _ _ | apply List.Sublist.append_left | apply List.sublist_append_of_sublist_right)) <;> fail))))) w hw)))) (.blk (.st M1) .nil) | exact .blk (.st M0) .nil | exact .blk (.st M1) .nil | exact .blk (.st M2) .nil | exact .blk (.st M3) .nil | exact .cons (by (first | exact rS M0 | exact wS M0 | exact rS M1 | exact wS M1 | exact rS M2 | exact wS M2 | exact rS M3 | exact wS M3 | exact rS M4 | exact wS M4 | exact rS M5 | exact wS M5 | exact rS M6 | exact wS M6 | exact rS M7 | exact wS M7 | exact rS M8 | exact wS M8 | exact rS M9 | exact wS M9 | exact RdIn.nil | exact (fun w hw => hrK w (Cl.kept (by (first | exact fun _ h => h | exact keepOf (by (((repeat (first | exact List.Sublist.refl _ | exact List.nil_sublist _ | apply List.Sublist.cons_cons | apply List.Sublist.cons | exact List.sublist_append_right _ _ | exact List.sublist_append_left _ _ | apply List.Sublist.append_left | apply List.sublist_append_of_sublist_right)) <;> fail))))) w hw)))) (.cons (by (first | exact rS M0 | exact wS M0 | exact rS M1 | exact wS M1 | exact rS M2 | exact wS M2 | exact rS M3 | exact wS M3 | exact rS M4 | exact wS M4 | exact rS M5 | exact wS M5 | exact rS M6 | exact wS M6 | exact rS M7 | exact wS M7 | exact rS M8 | exact wS M8 | exact rS M9 | exact wS M9 | exact RdIn.nil | exact (fun w hw => hrK w (Cl.kept (by (first | exact fun _ h => h | exact keepOf (by (((repeat (first | exact List.Sublist.refl _ | exact List.nil_sublist _ | apply List.Sublist.cons_cons | apply List.Sublist.cons | exact List.sublist_append_right _ _ | exact List.sublist_append_left _ _ | apply List.Sublist.append_left | apply List.sublist_append_of_sublist_right)) <;> fail))))) w hw)))) .nil) | exact .cons (by (first | exact rS M0 | exact wS M0 | exact rS M1 | exact wS M1 | exact rS M2 | exact wS M2 | exact rS M3 | exact wS M3 | exact rS M4 | exact wS M4 | exact rS M5 | exact wS M5 | exact rS M6 | exact wS M6 | exact rS M7 | exact wS M7 | exact rS M8 | exact wS M8 | exact rS M9 | exact wS M9 | exact RdIn.nil | exact (fun w hw => hrK w (Cl.kept (by (first | exact fun _ h => h | exact keepOf (by (((repeat (first | exact List.Sublist.refl _ | exact List.nil_sublist _ | apply List.Sublist.cons_cons | apply List.Sublist.cons | exact List.sublist_append_right _ _ | exact List.sublist_append_left _ _ | apply List.Sublist.append_left | apply List.sublist_append_of_sublist_right)) <;> fail))))) w hw)))) (.cons (by (first | exact rS M0 | exact wS M0 | exact rS M1 | exact wS M1 | exact rS M2 | exact wS M2 | exact rS M3 | exact wS M3 | exact rS M4 | exact wS M4 | exact rS M5 | exact wS M5 | exact rS M6 | exact wS M6 | exact rS M7 | exact wS M7 | exact rS M8 | exact wS M8 | exact rS M9 | exact wS M9 | exact RdIn.nil | exact (fun w hw => hrK w (Cl.kept (by (first | exact fun _ h => h | exact keepOf (by (((repeat (first | exact List.Sublist.refl _ | exact List.nil_sublist _ | apply List.Sublist.cons_cons | apply List.Sublist.cons | exact List.sublist_append_right _ _ | exact List.sublist_append_left _ _ | apply List.Sublist.append_left | apply List.sublist_append_of_sublist_right)) <;> fail))))) w hw)))) (.cons (by (first | exact rS M0 | exact wS M0 | exact rS M1 | exact wS M1 | exact rS M2 | exact wS M2 | exact rS M3 | exact wS M3 | exact rS M4 | exact wS M4 | exact rS M5 | exact wS M5 | exact rS M6 | exact wS M6 | exact rS M7 | exact wS M7 | exact rS M8 | exact wS M8 | exact rS M9 | exact wS M9 | exact RdIn.nil | exact (fun w hw => hrK w (Cl.kept (by (first | exact fun _ h => h | exact keepOf (by (((repeat (first | exact List.Sublist.refl _ | exact List.nil_sublist _ | apply List.Sublist.cons_cons | apply List.Sublist.cons | exact List.sublist_append_right _ _ | exact List.sublist_append_left _ _ | apply List.Sublist.append_left | apply List.sublist_append_of_sublist_right)) <;> fail))))) w hw)))) .nil)))) (fun hg => r_held) .all ?_
  first | refine At.e rfl rfl rfl rfl .all (R.addI (.t rfl) .c (fun hg => by first | omega | (simp [-List.length_eq_zero_iff] at hg; omega))) ?_ | refine At.e rfl rfl rfl rfl .all (R.add (.t rfl) .c) ?_
  refine At.e rfl rfl rfl rfl .all (R.assign (.t rfl)) ?_
  refine At.nil ?_
  refine At.tN ?_
  refine At.ret ?_
  exact At.final rfl (.t rfl) (List.nil_sublist _) (⟨congrArg (Value.int .i64) (by omega), rfl, rfl⟩)

theorem w_Version {s : Int} (h0 : -9223372036854775808 ≤ s ∧ s ≤ 9223372036854775807) : Fn Try.prog 33 [.int .i64 s] ([]) ([]) (IsV (.int .i64 (verW s))) := by
  refine Fn.enter Try.func33 (by kernel_rfl) rfl (n := 7) rfl rfl (fun w => ?_)
  refine At.seq ?_
  refine At.plain [(false, 0)] rfl ?_
  refine At.e rfl rfl rfl rfl .all (R.assign .c) ?_
  refine At.nil ?_
  refine At.tN ?_
  refine At.seq ?_
  refine At.seq ?_
  refine At.plain [(false, 0), (false, 1)] rfl ?_
  refine At.e rfl rfl rfl rfl .all (R.move (.t rfl)) ?_
  first | refine At.e rfl rfl rfl rfl .all (R.as (R.lss (.t rfl) .c) (fun _ => congrArg Value.bool (decide_eq_true (by omega)))) ?_ | refine At.e rfl rfl rfl rfl .all (R.as (R.lss (.t rfl) .c) (fun _ => congrArg Value.bool (decide_eq_false (by omega)))) ?_ | refine At.e rfl rfl rfl rfl .all (R.lss (.t rfl) .c) ?_
  refine At.nil ?_
  refine At.tN ?_
  first | refine At.condD (.t rfl) (fun c1 => ?_) (fun c1 => ?_) | refine At.condN (.t rfl) (fun c1 => ?_) (fun c1 => ?_) | refine At.cond (.t rfl) (fun c1 => ?_) (fun c1 => ?_)
  · skip
    refine At.seq ?_
    refine At.plain [(false, 0)] rfl ?_
    refine At.e rfl rfl rfl rfl .all (R.assign .c) ?_
    refine At.nil ?_
    refine At.tN ?_
    refine At.ret ?_
    refine At.tR ?_
    exact At.final rfl (.t rfl) (List.nil_sublist _) (⟨congrArg (Value.int .i64) (by unfold verW; first | rw [if_pos (by omega)] | rw [if_neg (by omega)]), rfl, rfl⟩)
  · skip
    refine At.skip ?_
    refine At.tN ?_
    refine At.seq ?_
    refine At.plain [(false, 0), (false, 1), (false, 2)] rfl ?_
    refine At.e rfl rfl rfl rfl .all (R.move (.t rfl)) ?_
    first | refine At.e rfl rfl rfl rfl .all (R.subI (.t rfl) .c (fun hg => by first | omega | (simp [-List.length_eq_zero_iff] at hg; omega))) ?_ | refine At.e rfl rfl rfl rfl .all (R.sub (.t rfl) .c) ?_
    refine At.e rfl rfl rfl rfl .all (R.assign (.t rfl)) ?_
    refine At.nil ?_
    refine At.tN ?_
    refine At.ret ?_
    exact At.final rfl (.t rfl) (List.nil_sublist _) (⟨congrArg (Value.int .i64) (by unfold verW; first | rw [if_pos (by omega)] | rw [if_neg (by omega)]), rfl, rfl⟩)

theorem h_Conf {a b c : Int} : Fn Try.prog 6 [.int .i64 a, .int .i64 b, .int .i64 c] ([]) ([]) (IsV (.agg #[.int .i64 a, .int .i64 b, .int .i64 c, .int .i64 1000])) := by
  refine Fn.enter Try.func6 (by kernel_rfl) rfl (n := 11) rfl rfl (fun w => ?_)
  refine At.seq ?_
  refine At.plain [(false, 0)] rfl ?_
  refine At.alloc rfl rfl rfl ze_26 (fun b1 hb1 => ⟨.all, ?_⟩)
  refine At.nil ?_
  refine At.tN ?_
  refine At.seq ?_
  refine At.plain [(false, 0), (false, 1), (false, 2), (false, 3), (false, 4)] rfl ?_
  refine At.e rfl rfl rfl rfl .all (R.move (.t rfl)) ?_
  refine At.e rfl rfl rfl rfl .all (R.move (.t rfl)) ?_
  refine At.e rfl rfl rfl rfl .all (R.move (.t rfl)) ?_
  refine At.e rfl rfl rfl rfl .all (R.build bt_26 (.cons (.t rfl) (.cons (.t rfl) (.cons (.t rfl) (.cons .c .nil)))) (.cons rfl (.cons rfl (.cons rfl (.cons rfl .nil)))) rfl) ?_
  first | refine At.stN rfl rfl sz_26 (.t rfl) (.t rfl) rfl rfl rfl (.n U0) ⟨.all, ?_⟩ | refine At.stN rfl rfl sz_26 (.t rfl) (.t rfl) rfl rfl rfl (.n U1) ⟨.all, ?_⟩ | refine At.stN rfl rfl sz_26 (.t rfl) (.t rfl) rfl rfl rfl (.n U2) ⟨.all, ?_⟩ | refine At.stN rfl rfl sz_26 (.t rfl) (.t rfl) rfl rfl rfl (.n U3) ⟨.all, ?_⟩ | refine At.stN rfl rfl sz_26 (.t rfl) (.t rfl) rfl rfl rfl (.n U4) ⟨.all, ?_⟩ | refine At.stN rfl rfl sz_26 (.t rfl) (.t rfl) rfl rfl rfl (.n U5) ⟨.all, ?_⟩ | refine At.stN rfl rfl sz_26 (.t rfl) (.t rfl) rfl rfl rfl (.n U6) ⟨.all, ?_⟩ | refine At.stN rfl rfl sz_26 (.t rfl) (.t rfl) rfl rfl rfl (.n U7) ⟨.all, ?_⟩ | refine At.stN rfl rfl sz_26 (.t rfl) (.t rfl) rfl rfl rfl (.h U0) ⟨.all, ?_⟩ | refine At.stN rfl rfl sz_26 (.t rfl) (.t rfl) rfl rfl rfl (.h U1) ⟨.all, ?_⟩ | refine At.stN rfl rfl sz_26 (.t rfl) (.t rfl) rfl rfl rfl (.h U2) ⟨.all, ?_⟩ | refine At.stN rfl rfl sz_26 (.t rfl) (.t rfl) rfl rfl rfl (.h U3) ⟨.all, ?_⟩
  refine At.nil ?_
  refine At.tN ?_
  refine At.ret ?_
  exact At.final rfl (.a (vs := [_, _, _, _]) Try.underlying26 rfl sz_26 rfl (by first | exact csS M0 ⟨rfl, rfl, rfl, rfl, trivial⟩ | exact csS M1 ⟨rfl, rfl, rfl, rfl, trivial⟩ | exact csS M2 ⟨rfl, rfl, rfl, rfl, trivial⟩ | exact csS M3 ⟨rfl, rfl, rfl, rfl, trivial⟩ | exact csS M4 ⟨rfl, rfl, rfl, rfl, trivial⟩ | exact csS M5 ⟨rfl, rfl, rfl, rfl, trivial⟩ | exact csS M6 ⟨rfl, rfl, rfl, rfl, trivial⟩ | exact csS M7 ⟨rfl, rfl, rfl, rfl, trivial⟩)) (List.nil_sublist _) (⟨rfl, rfl, rfl⟩)

theorem a_New {n : Nat} (h0 : 0 < n ∧ n ≤ 20000) : Fn Try.prog 21 [.int .i64 (n : Int)] ([]) ([]) (IsA n (⟨List.replicate n 0, 0, 0, 0, 0, 0, 0, 0, 0, 0, false⟩ : Ar)) := by
  refine Fn.enter Try.func21 (by kernel_rfl) rfl (n := 9) rfl rfl (fun w => ?_)
  refine At.seq ?_
  refine At.plain [(false, 0)] rfl ?_
  refine At.e rfl rfl rfl rfl .all (R.assign .c) ?_
  refine At.nil ?_
  refine At.tN ?_
  refine At.seq ?_
  refine At.plain [(false, 0), (false, 1), (false, 2), (false, 3), (false, 4), (false, 5), (false, 6)] rfl ?_
  refine At.e rfl rfl rfl rfl .all (R.move (.t rfl)) ?_
  refine At.e rfl rfl rfl rfl .all (R.max2 (.t rfl) .c) ?_
  refine At.e rfl rfl rfl rfl .all (R.as (R.min2 (.t rfl) .c) (fun _ => congrArg (Value.int .i64) (by omega : min (max (n : Int) 1) 20000 = n))) ?_
  refine At.makeSl (k := zK) (z := 0) rfl rfl rfl Try.underlying57 et_3 ze_3 rfl (.t rfl) (.t rfl) (by refine ⟨?_, ?_⟩ <;> first | omega | (simp; omega)) (fun v1 => ⟨.all, ?_⟩)
  refine At.rowOne (v := v1) (by (first | exact M0 | exact M1 | exact M2 | exact M3 | exact M4 | exact M5 | exact M6 | exact List.mem_append_right _ M0 | exact List.mem_append_right _ M1 | exact List.mem_append_right _ M2 | exact List.mem_append_right _ M3 | exact List.mem_append_right _ M4 | exact List.mem_append_right _ M5 | exact List.mem_append_right _ M6)) (fun h1v => ?_)
  refine At.e rfl rfl rfl rfl .all (R.build (cs := [v1, .int .i64 0, .int .i64 0, .int .i64 0, .int .i64 0, .int .i64 0, .int .i64 0, .int .i64 0, .int .i64 0, .int .i64 0, .bool false]) bt_62 (.cons (.t rfl) .nil) (.cons (c := [_]) (cells_one h1v) .nil) rfl) ?_
  refine At.box rfl rfl rfl (.t rfl) (fun b1 hb1 => ⟨.all, ?_⟩)
  refine At.e rfl rfl rfl rfl .all (R.assign (.t rfl)) ?_
  refine At.nil ?_
  refine At.tN ?_
  refine At.ret ?_
  refine At.re (N' := [arB b1 v1 (⟨List.replicate n 0, 0, 0, 0, 0, 0, 0, 0, 0, 0, false⟩ : Ar), arW v1 n (⟨List.replicate n 0, 0, 0, 0, 0, 0, 0, 0, 0, 0, false⟩ : Ar)]) (by rw [rowE, List.length_replicate]; rfl) ?_
  exact At.final (N' := [arB b1 v1 (⟨List.replicate n 0, 0, 0, 0, 0, 0, 0, 0, 0, 0, false⟩ : Ar), arW v1 n (⟨List.replicate n 0, 0, 0, 0, 0, 0, 0, 0, 0, 0, false⟩ : Ar)]) rfl (.t rfl) (by (((repeat (first | exact List.Sublist.refl _ | exact List.nil_sublist _ | apply List.Sublist.cons_cons | apply List.Sublist.cons | exact List.sublist_append_right _ _ | exact List.sublist_append_left _ _ | apply List.Sublist.append_left | apply List.sublist_append_of_sublist_right)) <;> fail))) (⟨b1, v1, rfl, rfl, rfl⟩)

theorem c_CloneZ {u : Value} {l : List Int} (hL : l.length ≤ 1000000) : Fn Try.prog 25 [u] ([rdE zK u l]) ([]) (IsR zK 3 l) := by
  refine Fn.enter Try.func25 (by kernel_rfl) rfl (n := 8) rfl rfl (fun w => ?_)
  refine At.sliceForm (v := u) (by (first | exact rS M0 | exact wS M0 | exact rS M1 | exact wS M1 | exact rS M2 | exact wS M2 | exact rS M3 | exact wS M3 | exact rS M4 | exact wS M4 | exact rS M5 | exact wS M5 | exact rS M6 | exact wS M6 | exact rS M7 | exact wS M7 | exact rS M8 | exact wS M8 | exact rS M9 | exact wS M9 | exact RdIn.nil | exact (fun w hw => hrK w (Cl.kept (by (first | exact fun _ h => h | exact keepOf (by (((repeat (first | exact List.Sublist.refl _ | exact List.nil_sublist _ | apply List.Sublist.cons_cons | apply List.Sublist.cons | exact List.sublist_append_right _ _ | exact List.sublist_append_left _ _ | apply List.Sublist.append_left | apply List.sublist_append_of_sublist_right)) <;> fail))))) w hw)))) (fun A cap hv hcap hA => ?_)
  subst hv
  refine At.seq ?_
  refine At.plain [(false, 0)] rfl ?_
  refine At.e rfl rfl rfl rfl .all (R.assign .c) ?_
  refine At.nil ?_
  refine At.tN ?_
  refine At.seq ?_
  refine At.seq ?_
  refine At.plain [(false, 0), (false, 1)] rfl ?_
  refine At.e rfl rfl rfl rfl .all (R.move (.t rfl)) ?_
  refine At.e rfl rfl rfl rfl .all (R.eqlNilS Try.underlying57 (.t rfl)) ?_
  refine At.nil ?_
  refine At.tN ?_
  first | refine At.condD (.t rfl) (fun c1 => ?_) (fun c1 => ?_) | refine At.condN (.t rfl) (fun c1 => ?_) (fun c1 => ?_) | refine At.cond (.t rfl) (fun c1 => ?_) (fun c1 => ?_)
  · obtain rfl : A = none := (by simpa using c1); have h0 : l = [] := List.eq_nil_of_length_eq_zero (by rcases Nat.eq_zero_or_pos l.length with h | h; exact h; obtain ⟨b, o, hbo⟩ := hA h; cases hbo); subst h0
    refine At.seq ?_
    refine At.nilRow zK 3 ?_
    refine At.plain [(false, 0)] rfl ?_
    refine At.e rfl rfl rfl rfl .all (R.assign .c) ?_
    refine At.nil ?_
    refine At.tN ?_
    refine At.ret ?_
    refine At.tR ?_
    exact At.final (N' := [rowE zK 3 (.slice none 0 0) []]) rfl (.t rfl) (by (((repeat (first | exact List.Sublist.refl _ | exact List.nil_sublist _ | apply List.Sublist.cons_cons | apply List.Sublist.cons | exact List.sublist_append_right _ _ | exact List.sublist_append_left _ _ | apply List.Sublist.append_left | apply List.sublist_append_of_sublist_right)) <;> fail))) (⟨rfl, rfl⟩)
  · skip
    refine At.skip ?_
    refine At.tN ?_
    refine At.seq ?_
    refine At.plain [(false, 0), (false, 1), (false, 2), (false, 3)] rfl ?_
    refine At.lit (k := zK) rfl rfl rfl Try.underlying57 et_3 .nil .nil rfl rfl rfl (fun v1 => ⟨.all, ?_⟩)
    refine At.e rfl rfl rfl rfl .all (R.move (.t rfl)) ?_
    refine At.app (k := zK) rfl rfl rfl Try.underlying57 et_3 (.t rfl) (.t rfl) (fun _ => by (first | exact U0 | exact U1 | exact U2 | exact U3 | exact U4 | exact U5 | exact U6 | exact U7)) (by (first | exact rS M0 | exact wS M0 | exact rS M1 | exact wS M1 | exact rS M2 | exact wS M2 | exact rS M3 | exact wS M3 | exact rS M4 | exact wS M4 | exact rS M5 | exact wS M5 | exact rS M6 | exact wS M6 | exact rS M7 | exact wS M7 | exact rS M8 | exact wS M8 | exact rS M9 | exact wS M9 | exact RdIn.nil | exact (fun w hw => hrK w (Cl.kept (by (first | exact fun _ h => h | exact keepOf (by (((repeat (first | exact List.Sublist.refl _ | exact List.nil_sublist _ | apply List.Sublist.cons_cons | apply List.Sublist.cons | exact List.sublist_append_right _ _ | exact List.sublist_append_left _ _ | apply List.Sublist.append_left | apply List.sublist_append_of_sublist_right)) <;> fail))))) w hw)))) (by first | (constructor <;> omega) | (simp <;> omega) | (simp only [List.length_append, List.length_cons, List.length_nil, List.length_take, List.length_drop]; omega)) (fun v2 => ⟨.all, ?_⟩)
    refine At.e rfl rfl rfl rfl .all (R.assign (.t rfl)) ?_
    refine At.nil ?_
    refine At.tN ?_
    refine At.ret ?_
    exact At.final (N' := [rowE zK 3 v2 l]) rfl (.t rfl) (by (((repeat (first | exact List.Sublist.refl _ | exact List.nil_sublist _ | apply List.Sublist.cons_cons | apply List.Sublist.cons | exact List.sublist_append_right _ _ | exact List.sublist_append_left _ _ | apply List.Sublist.append_left | apply List.sublist_append_of_sublist_right)) <;> fail))) (⟨rfl, rfl⟩)

end Go.Proofs.Ytimclnhklaldfaa
