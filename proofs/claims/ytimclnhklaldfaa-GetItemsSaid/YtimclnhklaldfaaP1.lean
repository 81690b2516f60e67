/- P1 -/
import Derived.Test.YtimclnhklaldfaaK2
namespace Go.Proofs.Ytimclnhklaldfaa
open Go Go.RowKit
set_option maxRecDepth 10000
set_option linter.unusedVariables false
theorem bt_83 : buildTab Try.prog 83 = some (#[.int .i64 0, .int .i64 0, .int .i64 0], [(0, 1), (1, 1), (2, 1)]) := by kernel_rfl
theorem bt_84 : buildTab Try.prog 84 = some (#[.int .i64 0, .int .i64 0, .int .i64 0, .int .i64 0, .int .i64 0, .int .i64 0, .int .i64 0, .int .i64 0, .int .i64 0, .int .i64 0, .int .i64 0, .int .i64 0], [(0, 3), (3, 3), (6, 3), (9, 3)]) := by kernel_rfl
theorem fo_26_2 : fieldOff? Try.prog 26 2 = some 2 := by kernel_rfl
theorem fo_26_3 : fieldOff? Try.prog 26 3 = some 3 := by kernel_rfl
theorem sz_83 : (Try.prog.info? 83).map (·.size) = some 3 := by kernel_rfl
theorem ze_83 : (Try.prog.info? 83).bind (·.zero) = some (.agg #[.int .i64 0, .int .i64 0, .int .i64 0]) := by kernel_rfl


abbrev vfZ : Int → Value := fun k => .int .i64 k
abbrev isX (a b c d : Int) (i : Nat) : Int := if i = 0 then a else if i = 1 then b else if i = 2 then d else c
abbrev isL (a : Int) (i : Nat) : Int := if i = 1 then a else 1
abbrev isH (i : Nat) : Int := if i = 0 then 8 else if i = 1 then 16 else if i = 2 then 1048576 else 20000
/-- A configuration that is right. -/
def okC (a b c d : Int) : Prop := 1 ≤ a ∧ a ≤ 8 ∧ a + 2 ≤ b ∧ b ≤ 16 ∧ 1 ≤ d ∧ d ≤ 1048576 ∧ 1 ≤ c ∧ c ≤ 20000 ∧ 21 + a + 3 * b ≤ c
theorem okC_row {a b c d : Int} (h : okC a b c d) (i : Nat) : isL a i ≤ isX a b c d i ∧ isX a b c d i ≤ isH i := by
  obtain ⟨h1, h2, h3, h4, h5, h6, h7, h8, h9⟩ := h
  unfold isL isX isH
  by_cases e0 : i = 0
  · simp [e0]; omega
  · by_cases e1 : i = 1
    · simp [e1]; omega
    · by_cases e2 : i = 2
      · simp [e2]; omega
      · simp [e0, e1, e2]; omega
theorem is_row {P : Program} {a b c d : Int} {i : Nat} (hT : P.underlying 83 = some (.array 3 3)) (hs : (P.info? 83).map (·.size) = some 3) (hi : i < 4) (w : World) : (part 83 #[.int .i64 a, .int .i64 1, .int .i64 8, .int .i64 b, .int .i64 a, .int .i64 16, .int .i64 d, .int .i64 1, .int .i64 1048576, .int .i64 c, .int .i64 1, .int .i64 20000] (((i : Int)).toNat * 3)).run P w = .ok (.agg #[.int .i64 (isX a b c d i), .int .i64 (isL a i), .int .i64 (isH i)]) w := by
  rw [run_part_arr hT hs]
  rcases (by omega : i = 0 ∨ i = 1 ∨ i = 2 ∨ i = 3) with rfl | rfl | rfl | rfl <;> rfl
/-- How many lie within. -/
def cntB (i : Nat) : List (Bool × Int) := if i = 0 then [] else [(true, (i : Int))]
theorem cntB_get (i : Nat) : agetV vfZ (.int .i64 0) (cntB i) true = .int .i64 i := by
  unfold cntB
  split
  · rename_i h; subst h; rfl
  · rfl
theorem cntB_none (i : Nat) : agetV vfZ (.int .i64 0) (cntB i) false = .int .i64 0 := by
  unfold cntB
  split <;> rfl
theorem cntB_put (i : Nat) : aput (cntB i) true ((i : Int) + 1) = cntB (i + 1) := by
  unfold cntB
  split
  · rename_i h; subst h; rfl
  · rw [if_neg (by omega)]; simp [aput, aidx]
theorem p_Is {a b c d : Int} (hc : okC a b c d) : Fn Try.prog 20 [.agg #[.int .i64 a, .int .i64 b, .int .i64 c, .int .i64 d]] ([]) ([]) (IsV .nilIface) := by
  refine Fn.enter Try.func20 (by kernel_rfl) rfl (n := 61) rfl rfl (fun w => ?_)
  have hrow := okC_row hc
  obtain ⟨h1, h2, h3, h4, h5, h6, h7, h8, h9⟩ := hc
  refine At.seq ?_
  refine At.plain [(false, 0), (false, 1)] rfl ?_
  refine At.box rfl rfl rfl (.t rfl) (fun b1 hb1 => ⟨.all, ?_⟩)
  refine At.e rfl rfl rfl rfl .all (R.assign .c) ?_
  refine At.nil ?_
  refine At.tN ?_
  refine At.seq ?_
  refine At.plain [(false, 0), (false, 1)] rfl ?_
  refine At.makeMap kfB vfZ rfl rfl rfl (fun b2 hb2 => ⟨.all, ?_⟩)
  refine At.e rfl rfl rfl rfl .all (R.assign (.t rfl)) ?_
  refine At.nil ?_
  refine At.tN ?_
  refine At.seq ?_
  refine At.seq ?_
  refine At.plain [(false, 0), (false, 1), (false, 2), (false, 3), (false, 4), (false, 5), (false, 6), (false, 7), (false, 8), (false, 9), (false, 10), (false, 11), (false, 12), (false, 13), (false, 14), (false, 15)] rfl ?_
  first | refine At.e rfl rfl rfl rfl .all (R.fieldAddr fo_26_0 (.t rfl)) ?_ | refine At.e rfl rfl rfl rfl .all (R.fieldRd fo_26_0 (.t rfl) (by (first | exact rS M0 | exact wS M0 | exact rS M1 | exact wS M1 | exact rS M2 | exact wS M2 | exact rS M3 | exact wS M3 | exact rS M4 | exact wS M4 | exact rS M5 | exact wS M5 | exact rS M6 | exact wS M6 | exact rS M7 | exact wS M7 | exact rS M8 | exact wS M8 | exact rS M9 | exact wS M9 | exact RdIn.nil | exact (fun w hw => hrK w (Cl.kept (by (first | exact fun _ h => h | exact keepOf (by (((repeat (first | exact List.Sublist.refl _ | exact List.nil_sublist _ | apply List.Sublist.cons_cons | apply List.Sublist.cons | exact List.sublist_append_right _ _ | exact List.sublist_append_left _ _ | apply List.Sublist.append_left | apply List.sublist_append_of_sublist_right)) <;> fail))))) w hw)))) (fun hg => (by first | omega | ((simp [-List.length_eq_zero_iff] at hg; omega)) | (simp only [List.length_append, List.length_cons, List.length_nil, List.length_take, List.length_drop]; omega)))) ?_
  refine At.e rfl rfl rfl rfl .all (R.load Try.underlying3 rfl (.t rfl) (by first | exact cS M0 rfl | exact cS M1 rfl | exact cS M2 rfl | exact cS M3 rfl | exact cS M4 rfl | exact cS M5 rfl | exact cS M6 rfl | exact cS M7 rfl)) ?_
  refine At.e rfl rfl rfl rfl .all (R.build bt_83 (.cons (.t rfl) (.cons .c (.cons .c .nil))) (.cons rfl (.cons rfl (.cons rfl .nil))) rfl) ?_
  first | refine At.e rfl rfl rfl rfl .all (R.fieldAddr fo_26_1 (.t rfl)) ?_ | refine At.e rfl rfl rfl rfl .all (R.fieldRd fo_26_1 (.t rfl) (by (first | exact rS M0 | exact wS M0 | exact rS M1 | exact wS M1 | exact rS M2 | exact wS M2 | exact rS M3 | exact wS M3 | exact rS M4 | exact wS M4 | exact rS M5 | exact wS M5 | exact rS M6 | exact wS M6 | exact rS M7 | exact wS M7 | exact rS M8 | exact wS M8 | exact rS M9 | exact wS M9 | exact RdIn.nil | exact (fun w hw => hrK w (Cl.kept (by (first | exact fun _ h => h | exact keepOf (by (((repeat (first | exact List.Sublist.refl _ | exact List.nil_sublist _ | apply List.Sublist.cons_cons | apply List.Sublist.cons | exact List.sublist_append_right _ _ | exact List.sublist_append_left _ _ | apply List.Sublist.append_left | apply List.sublist_append_of_sublist_right)) <;> fail))))) w hw)))) (fun hg => (by first | omega | ((simp [-List.length_eq_zero_iff] at hg; omega)) | (simp only [List.length_append, List.length_cons, List.length_nil, List.length_take, List.length_drop]; omega)))) ?_
  refine At.e rfl rfl rfl rfl .all (R.load Try.underlying3 rfl (.t rfl) (by first | exact cS M0 rfl | exact cS M1 rfl | exact cS M2 rfl | exact cS M3 rfl | exact cS M4 rfl | exact cS M5 rfl | exact cS M6 rfl | exact cS M7 rfl)) ?_
  first | refine At.e rfl rfl rfl rfl .all (R.fieldAddr fo_26_0 (.t rfl)) ?_ | refine At.e rfl rfl rfl rfl .all (R.fieldRd fo_26_0 (.t rfl) (by (first | exact rS M0 | exact wS M0 | exact rS M1 | exact wS M1 | exact rS M2 | exact wS M2 | exact rS M3 | exact wS M3 | exact rS M4 | exact wS M4 | exact rS M5 | exact wS M5 | exact rS M6 | exact wS M6 | exact rS M7 | exact wS M7 | exact rS M8 | exact wS M8 | exact rS M9 | exact wS M9 | exact RdIn.nil | exact (fun w hw => hrK w (Cl.kept (by (first | exact fun _ h => h | exact keepOf (by (((repeat (first | exact List.Sublist.refl _ | exact List.nil_sublist _ | apply List.Sublist.cons_cons | apply List.Sublist.cons | exact List.sublist_append_right _ _ | exact List.sublist_append_left _ _ | apply List.Sublist.append_left | apply List.sublist_append_of_sublist_right)) <;> fail))))) w hw)))) (fun hg => (by first | omega | ((simp [-List.length_eq_zero_iff] at hg; omega)) | (simp only [List.length_append, List.length_cons, List.length_nil, List.length_take, List.length_drop]; omega)))) ?_
  refine At.e rfl rfl rfl rfl .all (R.load Try.underlying3 rfl (.t rfl) (by first | exact cS M0 rfl | exact cS M1 rfl | exact cS M2 rfl | exact cS M3 rfl | exact cS M4 rfl | exact cS M5 rfl | exact cS M6 rfl | exact cS M7 rfl)) ?_
  refine At.e rfl rfl rfl rfl .all (R.build bt_83 (.cons (.t rfl) (.cons (.t rfl) (.cons .c .nil))) (.cons rfl (.cons rfl (.cons rfl .nil))) rfl) ?_
  first | refine At.e rfl rfl rfl rfl .all (R.fieldAddr fo_26_3 (.t rfl)) ?_ | refine At.e rfl rfl rfl rfl .all (R.fieldRd fo_26_3 (.t rfl) (by (first | exact rS M0 | exact wS M0 | exact rS M1 | exact wS M1 | exact rS M2 | exact wS M2 | exact rS M3 | exact wS M3 | exact rS M4 | exact wS M4 | exact rS M5 | exact wS M5 | exact rS M6 | exact wS M6 | exact rS M7 | exact wS M7 | exact rS M8 | exact wS M8 | exact rS M9 | exact wS M9 | exact RdIn.nil | exact (fun w hw => hrK w (Cl.kept (by (first | exact fun _ h => h | exact keepOf (by (((repeat (first | exact List.Sublist.refl _ | exact List.nil_sublist _ | apply List.Sublist.cons_cons | apply List.Sublist.cons | exact List.sublist_append_right _ _ | exact List.sublist_append_left _ _ | apply List.Sublist.append_left | apply List.sublist_append_of_sublist_right)) <;> fail))))) w hw)))) (fun hg => (by first | omega | ((simp [-List.length_eq_zero_iff] at hg; omega)) | (simp only [List.length_append, List.length_cons, List.length_nil, List.length_take, List.length_drop]; omega)))) ?_
  refine At.e rfl rfl rfl rfl .all (R.load Try.underlying3 rfl (.t rfl) (by first | exact cS M0 rfl | exact cS M1 rfl | exact cS M2 rfl | exact cS M3 rfl | exact cS M4 rfl | exact cS M5 rfl | exact cS M6 rfl | exact cS M7 rfl)) ?_
  refine At.e rfl rfl rfl rfl .all (R.build bt_83 (.cons (.t rfl) (.cons .c (.cons .c .nil))) (.cons rfl (.cons rfl (.cons rfl .nil))) rfl) ?_
  first | refine At.e rfl rfl rfl rfl .all (R.fieldAddr fo_26_2 (.t rfl)) ?_ | refine At.e rfl rfl rfl rfl .all (R.fieldRd fo_26_2 (.t rfl) (by (first | exact rS M0 | exact wS M0 | exact rS M1 | exact wS M1 | exact rS M2 | exact wS M2 | exact rS M3 | exact wS M3 | exact rS M4 | exact wS M4 | exact rS M5 | exact wS M5 | exact rS M6 | exact wS M6 | exact rS M7 | exact wS M7 | exact rS M8 | exact wS M8 | exact rS M9 | exact wS M9 | exact RdIn.nil | exact (fun w hw => hrK w (Cl.kept (by (first | exact fun _ h => h | exact keepOf (by (((repeat (first | exact List.Sublist.refl _ | exact List.nil_sublist _ | apply List.Sublist.cons_cons | apply List.Sublist.cons | exact List.sublist_append_right _ _ | exact List.sublist_append_left _ _ | apply List.Sublist.append_left | apply List.sublist_append_of_sublist_right)) <;> fail))))) w hw)))) (fun hg => (by first | omega | ((simp [-List.length_eq_zero_iff] at hg; omega)) | (simp only [List.length_append, List.length_cons, List.length_nil, List.length_take, List.length_drop]; omega)))) ?_
  refine At.e rfl rfl rfl rfl .all (R.load Try.underlying3 rfl (.t rfl) (by first | exact cS M0 rfl | exact cS M1 rfl | exact cS M2 rfl | exact cS M3 rfl | exact cS M4 rfl | exact cS M5 rfl | exact cS M6 rfl | exact cS M7 rfl)) ?_
  refine At.e rfl rfl rfl rfl .all (R.build bt_83 (.cons (.t rfl) (.cons .c (.cons .c .nil))) (.cons rfl (.cons rfl (.cons rfl .nil))) rfl) ?_
  refine At.e rfl rfl rfl rfl .all (R.as (R.build bt_84 (.cons (.t rfl) (.cons (.t rfl) (.cons (.t rfl) (.cons (.t rfl) .nil)))) (.cons rfl (.cons rfl (.cons rfl (.cons rfl .nil)))) rfl) (fun _ => (rfl : Value.agg _ = .agg #[.int .i64 a, .int .i64 1, .int .i64 8, .int .i64 b, .int .i64 a, .int .i64 16, .int .i64 d, .int .i64 1, .int .i64 1048576, .int .i64 c, .int .i64 1, .int .i64 20000]))) ?_
  refine At.e rfl rfl rfl rfl .all (R.move .c) ?_
  refine At.nil ?_
  refine At.tN ?_
  refine At.block ?_
  refine At.loop1 (fun (i : Nat) => i ≤ 4) (fun (i : Nat) => 4 - i) (fun (i : Nat) => [(1, true, .pointer (some ⟨b1, 0, none⟩)), (2, true, .nilIface), (3, true, .map (some b2)), (21, true, .agg #[.int .i64 a, .int .i64 1, .int .i64 8, .int .i64 b, .int .i64 a, .int .i64 16, .int .i64 d, .int .i64 1, .int .i64 1048576, .int .i64 c, .int .i64 1, .int .i64 20000]), (22, true, .int .i64 i)]) (fun (i : Nat) => [mapE kfB vfZ b2 (cntB i), .blk b1 (.cells #[.int .i64 a, .int .i64 b, .int .i64 c, .int .i64 d] 26)]) (fun (i : Nat) => []) (0) (Nat.zero_le _) (.cons rfl (.cons rfl (.cons rfl (.cons rfl (.cons rfl .nil))))) (by (((repeat (first | exact List.Sublist.refl _ | exact List.nil_sublist _ | apply List.Sublist.cons_cons | apply List.Sublist.cons | exact List.sublist_append_right _ _ | exact List.sublist_append_left _ _ | apply List.Sublist.append_left | apply List.sublist_append_of_sublist_right)) <;> fail))) rfl (fun i hi => ?_)
  refine At.seq ?_
  refine At.plain [(false, 0)] rfl ?_
  first | refine At.e rfl rfl rfl rfl .all (R.as (R.lss (.t rfl) .c) (fun _ => congrArg Value.bool (decide_eq_true (by omega)))) ?_ | refine At.e rfl rfl rfl rfl .all (R.as (R.lss (.t rfl) .c) (fun _ => congrArg Value.bool (decide_eq_false (by omega)))) ?_ | refine At.e rfl rfl rfl rfl .all (R.lss (.t rfl) .c) ?_
  refine At.nil ?_
  refine At.tN ?_
  refine At.seq ?_
  first | refine At.condD (.t rfl) (fun c1 => ?_) (fun c1 => ?_) | refine At.condN (.t rfl) (fun c1 => ?_) (fun c1 => ?_) | refine At.cond (.t rfl) (fun c1 => ?_) (fun c1 => ?_)
  · obtain ⟨hr1, hr2⟩ := hrow i
    refine At.skip ?_
    refine At.tN ?_
    refine At.seq ?_
    refine At.block ?_
    refine At.seq ?_
    refine At.plain [(false, 0), (false, 1), (false, 2)] rfl ?_
    refine At.e rfl rfl rfl rfl .all (R.indexAgg Try.underlying84 sz_83 (.t rfl) (.t rfl) (by omega) (is_row Try.underlying83 sz_83 (by omega))) ?_
    refine At.alloc rfl rfl rfl ze_83 (fun b3 hb3 => ⟨.all, ?_⟩)
    first | refine At.stN rfl rfl sz_83 (.t rfl) (.t rfl) rfl rfl rfl (.n U0) ⟨.all, ?_⟩ | refine At.stN rfl rfl sz_83 (.t rfl) (.t rfl) rfl rfl rfl (.n U1) ⟨.all, ?_⟩ | refine At.stN rfl rfl sz_83 (.t rfl) (.t rfl) rfl rfl rfl (.n U2) ⟨.all, ?_⟩ | refine At.stN rfl rfl sz_83 (.t rfl) (.t rfl) rfl rfl rfl (.n U3) ⟨.all, ?_⟩ | refine At.stN rfl rfl sz_83 (.t rfl) (.t rfl) rfl rfl rfl (.n U4) ⟨.all, ?_⟩ | refine At.stN rfl rfl sz_83 (.t rfl) (.t rfl) rfl rfl rfl (.n U5) ⟨.all, ?_⟩ | refine At.stN rfl rfl sz_83 (.t rfl) (.t rfl) rfl rfl rfl (.n U6) ⟨.all, ?_⟩ | refine At.stN rfl rfl sz_83 (.t rfl) (.t rfl) rfl rfl rfl (.n U7) ⟨.all, ?_⟩ | refine At.stN rfl rfl sz_83 (.t rfl) (.t rfl) rfl rfl rfl (.h U0) ⟨.all, ?_⟩ | refine At.stN rfl rfl sz_83 (.t rfl) (.t rfl) rfl rfl rfl (.h U1) ⟨.all, ?_⟩ | refine At.stN rfl rfl sz_83 (.t rfl) (.t rfl) rfl rfl rfl (.h U2) ⟨.all, ?_⟩ | refine At.stN rfl rfl sz_83 (.t rfl) (.t rfl) rfl rfl rfl (.h U3) ⟨.all, ?_⟩
    refine At.nil ?_
    refine At.tN ?_
    refine At.plain [(false, 0), (false, 1), (false, 2), (false, 3), (false, 4), (false, 5), (false, 6), (false, 7), (false, 8), (false, 9), (false, 10), (false, 11), (false, 12), (false, 13), (false, 14), (false, 15)] rfl ?_
    refine At.e rfl rfl rfl rfl .all (R.move (.t rfl)) ?_
    refine At.e rfl rfl rfl rfl .all (R.indexArr Try.underlying83 sz_3 (.t rfl) .c (fun hg => by first | omega | (simp [-List.length_eq_zero_iff] at hg; omega))) ?_
    refine At.e rfl rfl rfl rfl .all (R.load Try.underlying3 rfl (.t rfl) (by first | exact cS M0 rfl | exact cS M1 rfl | exact cS M2 rfl | exact cS M3 rfl | exact cS M4 rfl | exact cS M5 rfl | exact cS M6 rfl | exact cS M7 rfl)) ?_
    refine At.e rfl rfl rfl rfl .all (R.indexArr Try.underlying83 sz_3 (.t rfl) .c (fun hg => by first | omega | (simp [-List.length_eq_zero_iff] at hg; omega))) ?_
    refine At.e rfl rfl rfl rfl .all (R.load Try.underlying3 rfl (.t rfl) (by first | exact cS M0 rfl | exact cS M1 rfl | exact cS M2 rfl | exact cS M3 rfl | exact cS M4 rfl | exact cS M5 rfl | exact cS M6 rfl | exact cS M7 rfl)) ?_
    first | refine At.e rfl rfl rfl rfl .all (R.as (R.geq (.t rfl) (.t rfl)) (fun _ => congrArg Value.bool (decide_eq_true (by omega)))) ?_ | refine At.e rfl rfl rfl rfl .all (R.as (R.geq (.t rfl) (.t rfl)) (fun _ => congrArg Value.bool (decide_eq_false (by omega)))) ?_ | refine At.e rfl rfl rfl rfl .all (R.geq (.t rfl) (.t rfl)) ?_
    refine At.e rfl rfl rfl rfl .all (R.move (.t rfl)) ?_
    first | refine At.eF rfl rfl rfl rfl .all ?_ | refine At.e rfl rfl rfl rfl .all (R.indexArr Try.underlying83 sz_3 (by first | exact .t rfl | exact .s rfl | exact .i rfl (by simp_all)) .c (fun hg => by first | omega | (simp [-List.length_eq_zero_iff] at hg; omega))) ?_
    first | refine At.eF rfl rfl rfl rfl .all ?_ | refine At.e rfl rfl rfl rfl .all (R.load Try.underlying3 rfl (by first | exact .t rfl | exact .s rfl | exact .i rfl (by simp_all)) (by first | exact cS M0 rfl | exact cS M1 rfl | exact cS M2 rfl | exact cS M3 rfl | exact cS M4 rfl | exact cS M5 rfl | exact cS M6 rfl | exact cS M7 rfl)) ?_
    first | refine At.eF rfl rfl rfl rfl .all ?_ | refine At.e rfl rfl rfl rfl .all (R.indexArr Try.underlying83 sz_3 (by first | exact .t rfl | exact .s rfl | exact .i rfl (by simp_all)) .c (fun hg => by first | omega | (simp [-List.length_eq_zero_iff] at hg; omega))) ?_
    first | refine At.eF rfl rfl rfl rfl .all ?_ | refine At.e rfl rfl rfl rfl .all (R.load Try.underlying3 rfl (by first | exact .t rfl | exact .s rfl | exact .i rfl (by simp_all)) (by first | exact cS M0 rfl | exact cS M1 rfl | exact cS M2 rfl | exact cS M3 rfl | exact cS M4 rfl | exact cS M5 rfl | exact cS M6 rfl | exact cS M7 rfl)) ?_
    first | refine At.eF rfl rfl rfl rfl .all ?_ | refine At.e rfl rfl rfl rfl .all (R.as (R.leq (by first | exact .t rfl | exact .s rfl | exact .i rfl (by simp_all)) (by first | exact .t rfl | exact .s rfl | exact .i rfl (by simp_all))) (fun _ => congrArg Value.bool (decide_eq_true hr2))) ?_
    first | refine At.e rfl rfl rfl rfl .all (R.pickT (.t rfl) (.t rfl)) ?_ | refine At.e rfl rfl rfl rfl .all (R.pickF (.t rfl) .c) ?_ | refine At.e rfl rfl rfl rfl .all (R.pickAnd (.t rfl) rfl (by first | (intro hg h; rw [h]; rfl) | (intro hg h; rw [hg, h]; rfl) | (simp_all; done) | (simp_all; omega))) ?_
    refine At.e rfl rfl rfl rfl .all (R.as (R.lookup (kf := kfB) (vf := vfZ) Try.underlying82 (keyOk_bool Try.underlying4) ze_3 (.t rfl) (.t rfl) (by first | exact Holds.st M0 | exact Holds.st M1 | exact Holds.st M2 | exact Holds.st M3 | exact Holds.st M4 | exact Holds.st M5)) (fun _ => cntB_get i)) ?_
    first | refine At.e rfl rfl rfl rfl .all (R.addI (.t rfl) .c (fun hg => by first | omega | (simp [-List.length_eq_zero_iff] at hg; omega))) ?_ | refine At.e rfl rfl rfl rfl .all (R.add (.t rfl) .c) ?_
    first | refine At.mapUp (kf := kfB) (vf := vfZ) (ml := cntB i) (k := true) (v := (i : Int) + 1) rfl rfl Try.underlying82 (keyOk_bool Try.underlying4) (.t rfl) (.t rfl) (.t rfl) (.n U0) ⟨.all, ?_⟩ | refine At.mapUp (kf := kfB) (vf := vfZ) (ml := cntB i) (k := true) (v := (i : Int) + 1) rfl rfl Try.underlying82 (keyOk_bool Try.underlying4) (.t rfl) (.t rfl) (.t rfl) (.n U1) ⟨.all, ?_⟩ | refine At.mapUp (kf := kfB) (vf := vfZ) (ml := cntB i) (k := true) (v := (i : Int) + 1) rfl rfl Try.underlying82 (keyOk_bool Try.underlying4) (.t rfl) (.t rfl) (.t rfl) (.n U2) ⟨.all, ?_⟩
    refine At.nil ?_
    refine At.bN ?_
    refine At.tN ?_
    refine At.plain [(false, 0), (false, 1)] rfl ?_
    first | refine At.e rfl rfl rfl rfl .all (R.addI (.t rfl) .c (fun hg => by first | omega | (simp [-List.length_eq_zero_iff] at hg; omega))) ?_ | refine At.e rfl rfl rfl rfl .all (R.add (.t rfl) .c) ?_
    refine At.e rfl rfl rfl rfl .all (R.move (.t rfl)) ?_
    refine At.nil ?_
    refine At.weak (fun _ _ h => h) (N' := [mapE kfB vfZ b2 (cntB (i + 1)), .blk b1 (.cells #[.int .i64 a, .int .i64 b, .int .i64 c, .int .i64 d] 26)]) (by rw [← cntB_put]; exact (by (((repeat (first | exact List.Sublist.refl _ | exact List.nil_sublist _ | apply List.Sublist.cons_cons | apply List.Sublist.cons | exact List.sublist_append_right _ _ | exact List.sublist_append_left _ _ | apply List.Sublist.append_left | apply List.sublist_append_of_sublist_right)) <;> fail)))) ?_
    refine At.tN ?_
    exact At.again1 (i + 1) (by omega) (by omega) (.cons rfl (.cons rfl (.cons rfl (.cons rfl (.cons rfl .nil))))) (by (((repeat (first | exact List.Sublist.refl _ | exact List.nil_sublist _ | apply List.Sublist.cons_cons | apply List.Sublist.cons | exact List.sublist_append_right _ _ | exact List.sublist_append_left _ _ | apply List.Sublist.append_left | apply List.sublist_append_of_sublist_right)) <;> fail))) rfl
  · skip
    refine At.exit ?_
    refine At.tE ?_
    refine At.tE ?_
    refine At.bE ?_
    refine At.tN ?_
    refine At.seq ?_
    refine At.block ?_
    refine At.seq ?_
    refine At.plain [(false, 0), (false, 1), (false, 2), (false, 3), (false, 4), (false, 5), (false, 6), (false, 7), (false, 8), (false, 9), (false, 10), (false, 11)] rfl ?_
    refine At.e rfl rfl rfl rfl .all (R.move (.t rfl)) ?_
    refine At.e rfl rfl rfl rfl .all (R.as (R.lookup (kf := kfB) (vf := vfZ) Try.underlying82 (keyOk_bool Try.underlying4) ze_3 (.t rfl) .c (by first | exact Holds.st M0 | exact Holds.st M1 | exact Holds.st M2 | exact Holds.st M3 | exact Holds.st M4 | exact Holds.st M5)) (fun _ => cntB_none _)) ?_
    first | refine At.e rfl rfl rfl rfl .all (R.as (R.gtr (.t rfl) .c) (fun _ => congrArg Value.bool (decide_eq_true (by omega)))) ?_ | refine At.e rfl rfl rfl rfl .all (R.as (R.gtr (.t rfl) .c) (fun _ => congrArg Value.bool (decide_eq_false (by omega)))) ?_ | refine At.e rfl rfl rfl rfl .all (R.gtr (.t rfl) .c) ?_
    refine At.e rfl rfl rfl rfl .all (R.move (.t rfl)) ?_
    first | refine At.eF rfl rfl rfl rfl .all ?_ | refine At.e rfl rfl rfl rfl .all (R.fieldAddr fo_26_1 (by first | exact .t rfl | exact .s rfl | exact .i rfl (by simp_all))) ?_ | refine At.e rfl rfl rfl rfl .all (R.fieldRd fo_26_1 (by first | exact .t rfl | exact .s rfl | exact .i rfl (by simp_all)) (by (first | exact rS M0 | exact wS M0 | exact rS M1 | exact wS M1 | exact rS M2 | exact wS M2 | exact rS M3 | exact wS M3 | exact rS M4 | exact wS M4 | exact rS M5 | exact wS M5 | exact rS M6 | exact wS M6 | exact rS M7 | exact wS M7 | exact rS M8 | exact wS M8 | exact rS M9 | exact wS M9 | exact RdIn.nil | exact (fun w hw => hrK w (Cl.kept (by (first | exact fun _ h => h | exact keepOf (by (((repeat (first | exact List.Sublist.refl _ | exact List.nil_sublist _ | apply List.Sublist.cons_cons | apply List.Sublist.cons | exact List.sublist_append_right _ _ | exact List.sublist_append_left _ _ | apply List.Sublist.append_left | apply List.sublist_append_of_sublist_right)) <;> fail))))) w hw)))) (fun hg => (by first | omega | ((simp [-List.length_eq_zero_iff] at hg; omega)) | (simp only [List.length_append, List.length_cons, List.length_nil, List.length_take, List.length_drop]; omega)))) ?_
    first | refine At.eF rfl rfl rfl rfl .all ?_ | refine At.e rfl rfl rfl rfl .all (R.load Try.underlying3 rfl (by first | exact .t rfl | exact .s rfl | exact .i rfl (by simp_all)) (by first | exact cS M0 rfl | exact cS M1 rfl | exact cS M2 rfl | exact cS M3 rfl | exact cS M4 rfl | exact cS M5 rfl | exact cS M6 rfl | exact cS M7 rfl)) ?_
    first | refine At.eF rfl rfl rfl rfl .all ?_ | refine At.e rfl rfl rfl rfl .all (R.subI (by first | exact .t rfl | exact .s rfl | exact .i rfl (by simp_all)) .c (fun hg => by first | omega | (simp [-List.length_eq_zero_iff] at hg; omega))) ?_ | refine At.e rfl rfl rfl rfl .all (R.sub (by first | exact .t rfl | exact .s rfl | exact .i rfl (by simp_all)) .c) ?_
    first | refine At.eF rfl rfl rfl rfl .all ?_ | refine At.e rfl rfl rfl rfl .all (R.fieldAddr fo_26_0 (by first | exact .t rfl | exact .s rfl | exact .i rfl (by simp_all))) ?_ | refine At.e rfl rfl rfl rfl .all (R.fieldRd fo_26_0 (by first | exact .t rfl | exact .s rfl | exact .i rfl (by simp_all)) (by (first | exact rS M0 | exact wS M0 | exact rS M1 | exact wS M1 | exact rS M2 | exact wS M2 | exact rS M3 | exact wS M3 | exact rS M4 | exact wS M4 | exact rS M5 | exact wS M5 | exact rS M6 | exact wS M6 | exact rS M7 | exact wS M7 | exact rS M8 | exact wS M8 | exact rS M9 | exact wS M9 | exact RdIn.nil | exact (fun w hw => hrK w (Cl.kept (by (first | exact fun _ h => h | exact keepOf (by (((repeat (first | exact List.Sublist.refl _ | exact List.nil_sublist _ | apply List.Sublist.cons_cons | apply List.Sublist.cons | exact List.sublist_append_right _ _ | exact List.sublist_append_left _ _ | apply List.Sublist.append_left | apply List.sublist_append_of_sublist_right)) <;> fail))))) w hw)))) (fun hg => (by first | omega | ((simp [-List.length_eq_zero_iff] at hg; omega)) | (simp only [List.length_append, List.length_cons, List.length_nil, List.length_take, List.length_drop]; omega)))) ?_
    first | refine At.eF rfl rfl rfl rfl .all ?_ | refine At.e rfl rfl rfl rfl .all (R.load Try.underlying3 rfl (by first | exact .t rfl | exact .s rfl | exact .i rfl (by simp_all)) (by first | exact cS M0 rfl | exact cS M1 rfl | exact cS M2 rfl | exact cS M3 rfl | exact cS M4 rfl | exact cS M5 rfl | exact cS M6 rfl | exact cS M7 rfl)) ?_
    first | refine At.eF rfl rfl rfl rfl .all ?_ | refine At.e rfl rfl rfl rfl .all (R.as (R.lss (by first | exact .t rfl | exact .s rfl | exact .i rfl (by simp_all)) (by first | exact .t rfl | exact .s rfl | exact .i rfl (by simp_all))) (fun _ => congrArg Value.bool (decide_eq_false (by omega)))) ?_
    first | refine At.e rfl rfl rfl rfl .all (R.pickT (.t rfl) .c) ?_ | refine At.e rfl rfl rfl rfl .all (R.pickF (.t rfl) (.t rfl)) ?_ | refine At.e rfl rfl rfl rfl .all (R.pickOr (.t rfl) rfl (by first | (intro hg h; rw [h]; rfl) | (intro hg h; rw [hg, h]; rfl) | (simp_all; done) | (simp_all; omega))) ?_
    refine At.e rfl rfl rfl rfl .all (R.assign (.t rfl)) ?_
    refine At.nil ?_
    refine At.tN ?_
    refine At.condF (.t rfl) ?_
    refine At.seq ?_
    refine At.drawK [(true, 0), (true, 2), (true, 3), (false, 1), (true, 4), (true, 5)] (by kernel_rfl) (by kernel_rfl) ?_
    first | refine At.s rfl rfl rfl rfl (Cl.kept fun _ h => h) (R.loadAgg (vs := None.enc _) Try.underlying26 rfl sz_26 (.t rfl) (by first | exact csK M0 ⟨rfl, rfl, rfl, rfl, trivial⟩ | exact csK M1 ⟨rfl, rfl, rfl, rfl, trivial⟩ | exact csK M2 ⟨rfl, rfl, rfl, rfl, trivial⟩ | exact csK M3 ⟨rfl, rfl, rfl, rfl, trivial⟩ | exact csK M4 ⟨rfl, rfl, rfl, rfl, trivial⟩ | exact csK M5 ⟨rfl, rfl, rfl, rfl, trivial⟩ | exact csK M6 ⟨rfl, rfl, rfl, rfl, trivial⟩ | exact csK M7 ⟨rfl, rfl, rfl, rfl, trivial⟩)) ?_ | refine At.s rfl rfl rfl rfl (Cl.kept fun _ h => h) (R.loadAgg (vs := [_, _, _, _]) Try.underlying26 rfl sz_26 (.t rfl) (by first | exact csK M0 ⟨rfl, rfl, rfl, rfl, trivial⟩ | exact csK M1 ⟨rfl, rfl, rfl, rfl, trivial⟩ | exact csK M2 ⟨rfl, rfl, rfl, rfl, trivial⟩ | exact csK M3 ⟨rfl, rfl, rfl, rfl, trivial⟩ | exact csK M4 ⟨rfl, rfl, rfl, rfl, trivial⟩ | exact csK M5 ⟨rfl, rfl, rfl, rfl, trivial⟩ | exact csK M6 ⟨rfl, rfl, rfl, rfl, trivial⟩ | exact csK M7 ⟨rfl, rfl, rfl, rfl, trivial⟩)) ?_
    first | refine At.s rfl rfl rfl rfl (Cl.kept fun _ h => h) (R.fieldAddr fo_26_2 (.t rfl)) ?_ | refine At.s rfl rfl rfl rfl (Cl.kept fun _ h => h) (R.fieldRd fo_26_2 (.t rfl) (by (first | exact rK M0 | exact wK M0 | exact rK M1 | exact wK M1 | exact rK M2 | exact wK M2 | exact rK M3 | exact wK M3 | exact rK M4 | exact wK M4 | exact rK M5 | exact wK M5 | exact rK M6 | exact wK M6 | exact rK M7 | exact wK M7 | exact rK M8 | exact wK M8 | exact rK M9 | exact wK M9 | exact RdIn.nil | exact hrK)) (fun hg => (by first | omega | ((simp [-List.length_eq_zero_iff] at hg; omega)) | (simp only [List.length_append, List.length_cons, List.length_nil, List.length_take, List.length_drop]; omega)))) ?_
    refine At.s rfl rfl rfl rfl (Cl.kept fun _ h => h) (R.load Try.underlying3 rfl (.t rfl) (by first | exact cK M0 rfl | exact cK M1 rfl | exact cK M2 rfl | exact cK M3 rfl | exact cK M4 rfl | exact cK M5 rfl | exact cK M6 rfl | exact cK M7 rfl)) ?_
    refine At.callVR rfl rfl rfl (.cons (.t rfl) .nil) (by (first | exact .nil | exact .cons (by (first | exact rS M0 | exact wS M0 | exact rS M1 | exact wS M1 | exact rS M2 | exact wS M2 | exact rS M3 | exact wS M3 | exact rS M4 | exact wS M4 | exact rS M5 | exact wS M5 | exact rS M6 | exact wS M6 | exact rS M7 | exact wS M7 | exact rS M8 | exact wS M8 | exact rS M9 | exact wS M9 | exact RdIn.nil | exact (fun w hw => hrK w (Cl.kept (by (first | exact fun _ h => h | exact keepOf (by (((repeat (first | exact List.Sublist.refl _ | exact List.nil_sublist _ | apply List.Sublist.cons_cons | apply List.Sublist.cons | exact List.sublist_append_right _ _ | exact List.sublist_append_left _ _ | apply List.Sublist.append_left | apply List.sublist_append_of_sublist_right)) <;> fail))))) w hw)))) .nil | exact .cons (by (first | exact rS M0 | exact wS M0 | exact rS M1 | exact wS M1 | exact rS M2 | exact wS M2 | exact rS M3 | exact wS M3 | exact rS M4 | exact wS M4 | exact rS M5 | exact wS M5 | exact rS M6 | exact wS M6 | exact rS M7 | exact wS M7 | exact rS M8 | exact wS M8 | exact rS M9 | exact wS M9 | exact RdIn.nil | exact (fun w hw => hrK w (Cl.kept (by (first | exact fun _ h => h | exact keepOf (by (((repeat (first | exact List.Sublist.refl _ | exact List.nil_sublist _ | apply List.Sublist.cons_cons | apply List.Sublist.cons | exact List.sublist_append_right _ _ | exact List.sublist_append_left _ _ | apply List.Sublist.append_left | apply List.sublist_append_of_sublist_right)) <;> fail))))) w hw)))) (.blk (.st M0) .nil) | exact .cons (by (first | exact rS M0 | exact wS M0 | exact rS M1 | exact wS M1 | exact rS M2 | exact wS M2 | exact rS M3 | exact wS M3 | exact rS M4 | exact wS M4 | exact rS M5 | exact wS M5 | exact rS M6 | exact wS M6 | exact rS M7 | exact wS M7 | exact rS M8 | exact wS M8 | exact rS M9 | exact wS M9 | exact RdIn.nil | exact (fun w hw => hrK w (Cl.kept (by (first | exact fun _ h => h | exact keepOf (by (((repeat (first | exact List.Sublist.refl _ | exact List.nil_sublist _ | apply List.Sublist.cons_cons | apply List.Sublist.cons | exact List.sublist_append_right _ _ | exact List.sublist_append_left _ _ | apply List.Sublist.append_left | apply List.sublist_append_of_sublist_right)) <;> fail))))) w hw)))) (.blk (.st M1) .nil) | exact .blk (.st M0) .nil | exact .blk (.st M1) .nil | exact .blk (.st M2) .nil | exact .blk (.st M3) .nil | exact .cons (by (first | exact rS M0 | exact wS M0 | exact rS M1 | exact wS M1 | exact rS M2 | exact wS M2 | exact rS M3 | exact wS M3 | exact rS M4 | exact wS M4 | exact rS M5 | exact wS M5 | exact rS M6 | exact wS M6 | exact rS M7 | exact wS M7 | exact rS M8 | exact wS M8 | exact rS M9 | exact wS M9 | exact RdIn.nil | exact (fun w hw => hrK w (Cl.kept (by (first | exact fun _ h => h | exact keepOf (by (((repeat (first | exact List.Sublist.refl _ | exact List.nil_sublist _ | apply List.Sublist.cons_cons | apply List.Sublist.cons | exact List.sublist_append_right _ _ | exact List.sublist_append_left _ _ | apply List.Sublist.append_left | apply List.sublist_append_of_sublist_right)) <;> fail))))) w hw)))) (.cons (by (first | exact rS M0 | exact wS M0 | exact rS M1 | exact wS M1 | exact rS M2 | exact wS M2 | exact rS M3 | exact wS M3 | exact rS M4 | exact wS M4 | exact rS M5 | exact wS M5 | exact rS M6 | exact wS M6 | exact rS M7 | exact wS M7 | exact rS M8 | exact wS M8 | exact rS M9 | exact wS M9 | exact RdIn.nil | exact (fun w hw => hrK w (Cl.kept (by (first | exact fun _ h => h | exact keepOf (by (((repeat (first | exact List.Sublist.refl _ | exact List.nil_sublist _ | apply List.Sublist.cons_cons | apply List.Sublist.cons | exact List.sublist_append_right _ _ | exact List.sublist_append_left _ _ | apply List.Sublist.append_left | apply List.sublist_append_of_sublist_right)) <;> fail))))) w hw)))) .nil) | exact .cons (by (first | exact rS M0 | exact wS M0 | exact rS M1 | exact wS M1 | exact rS M2 | exact wS M2 | exact rS M3 | exact wS M3 | exact rS M4 | exact wS M4 | exact rS M5 | exact wS M5 | exact rS M6 | exact wS M6 | exact rS M7 | exact wS M7 | exact rS M8 | exact wS M8 | exact rS M9 | exact wS M9 | exact RdIn.nil | exact (fun w hw => hrK w (Cl.kept (by (first | exact fun _ h => h | exact keepOf (by (((repeat (first | exact List.Sublist.refl _ | exact List.nil_sublist _ | apply List.Sublist.cons_cons | apply List.Sublist.cons | exact List.sublist_append_right _ _ | exact List.sublist_append_left _ _ | apply List.Sublist.append_left | apply List.sublist_append_of_sublist_right)) <;> fail))))) w hw)))) (.cons (by (first | exact rS M0 | exact wS M0 | exact rS M1 | exact wS M1 | exact rS M2 | exact wS M2 | exact rS M3 | exact wS M3 | exact rS M4 | exact wS M4 | exact rS M5 | exact wS M5 | exact rS M6 | exact wS M6 | exact rS M7 | exact wS M7 | exact rS M8 | exact wS M8 | exact rS M9 | exact wS M9 | exact RdIn.nil | exact (fun w hw => hrK w (Cl.kept (by (first | exact fun _ h => h | exact keepOf (by (((repeat (first | exact List.Sublist.refl _ | exact List.nil_sublist _ | apply List.Sublist.cons_cons | apply List.Sublist.cons | exact List.sublist_append_right _ _ | exact List.sublist_append_left _ _ | apply List.Sublist.append_left | apply List.sublist_append_of_sublist_right)) <;> fail))))) w hw)))) (.cons (by (first | exact rS M0 | exact wS M0 | exact rS M1 | exact wS M1 | exact rS M2 | exact wS M2 | exact rS M3 | exact wS M3 | exact rS M4 | exact wS M4 | exact rS M5 | exact wS M5 | exact rS M6 | exact wS M6 | exact rS M7 | exact wS M7 | exact rS M8 | exact wS M8 | exact rS M9 | exact wS M9 | exact RdIn.nil | exact (fun w hw => hrK w (Cl.kept (by (first | exact fun _ h => h | exact keepOf (by (((repeat (first | exact List.Sublist.refl _ | exact List.nil_sublist _ | apply List.Sublist.cons_cons | apply List.Sublist.cons | exact List.sublist_append_right _ _ | exact List.sublist_append_left _ _ | apply List.Sublist.append_left | apply List.sublist_append_of_sublist_right)) <;> fail))))) w hw)))) .nil)))) (fun hg => p_Top (by omega) (by omega) (by omega) (by omega)) (Cl.kept (by (first | exact fun _ h => h | exact keepOf (by (((repeat (first | exact List.Sublist.refl _ | exact List.nil_sublist _ | apply List.Sublist.cons_cons | apply List.Sublist.cons | exact List.sublist_append_right _ _ | exact List.sublist_append_left _ _ | apply List.Sublist.append_left | apply List.sublist_append_of_sublist_right)) <;> fail)))))) ?_
    first | refine At.s rfl rfl rfl rfl (Cl.kept (by (first | exact fun _ h => h | exact keepOf (by (((repeat (first | exact List.Sublist.refl _ | exact List.nil_sublist _ | apply List.Sublist.cons_cons | apply List.Sublist.cons | exact List.sublist_append_right _ _ | exact List.sublist_append_left _ _ | apply List.Sublist.append_left | apply List.sublist_append_of_sublist_right)) <;> fail)))))) (R.as (R.gtr (.t rfl) (.t rfl)) (fun _ => congrArg Value.bool (decide_eq_true (by omega)))) ?_ | refine At.s rfl rfl rfl rfl (Cl.kept (by (first | exact fun _ h => h | exact keepOf (by (((repeat (first | exact List.Sublist.refl _ | exact List.nil_sublist _ | apply List.Sublist.cons_cons | apply List.Sublist.cons | exact List.sublist_append_right _ _ | exact List.sublist_append_left _ _ | apply List.Sublist.append_left | apply List.sublist_append_of_sublist_right)) <;> fail)))))) (R.as (R.gtr (.t rfl) (.t rfl)) (fun _ => congrArg Value.bool (decide_eq_false (by omega)))) ?_ | refine At.s rfl rfl rfl rfl (Cl.kept (by (first | exact fun _ h => h | exact keepOf (by (((repeat (first | exact List.Sublist.refl _ | exact List.nil_sublist _ | apply List.Sublist.cons_cons | apply List.Sublist.cons | exact List.sublist_append_right _ _ | exact List.sublist_append_left _ _ | apply List.Sublist.append_left | apply List.sublist_append_of_sublist_right)) <;> fail)))))) (R.gtr (.t rfl) (.t rfl)) ?_
    refine At.s rfl rfl rfl rfl (Cl.kept (by (first | exact fun _ h => h | exact keepOf (by (((repeat (first | exact List.Sublist.refl _ | exact List.nil_sublist _ | apply List.Sublist.cons_cons | apply List.Sublist.cons | exact List.sublist_append_right _ _ | exact List.sublist_append_left _ _ | apply List.Sublist.append_left | apply List.sublist_append_of_sublist_right)) <;> fail)))))) (R.assign (.t rfl)) ?_
    refine At.nil ?_
    refine At.tN ?_
    refine At.condF (.t rfl) ?_
    refine At.skip ?_
    refine At.bN ?_
    refine At.tN ?_
    refine At.seq ?_
    refine At.plain [(false, 0)] rfl ?_
    refine At.e rfl rfl rfl rfl .all (R.assign .c) ?_
    refine At.nil ?_
    refine At.tN ?_
    refine At.ret ?_
    exact At.final rfl (.t rfl) (List.nil_sublist _) (⟨rfl, rfl, rfl⟩)

end Go.Proofs.Ytimclnhklaldfaa
