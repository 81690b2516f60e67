/- K2 -/
import Derived.Test.YtejpanipdjknjaaK1
import Derived.Test.YtejpanipdjknjaaEngF
namespace Go.Proofs.Ytejpanipdjknjaa
open Go Go.RowKit
set_option maxRecDepth 10000
set_option linter.unusedVariables false



/-- Which of two numbers is the greater. -/
def cmpZ (a b : Int) : Int := if a < b then -1 else if b < a then 1 else 0
theorem latG_yes {l : List Itm} {key ver : Int} {x : Itm} {t : Bool} {i : Nat} (hi : i < l.length) (h : latF (l.take i) key ver = (if t then some x else none))
    (hc : ((gE l (i : Int)).key = key ∧ (gE l (i : Int)).ver ≤ ver) ∧ (t = false ∨ x.ver ≤ (gE l (i : Int)).ver)) : latF (l.take (i + 1)) key ver = (if true then some (gE l (i : Int)) else none) := by
  rw [latF_step hi, h, if_pos]; rfl
  cases t <;> simp_all [latB]
theorem latG_no {l : List Itm} {key ver : Int} {x : Itm} {t : Bool} {i : Nat} (hi : i < l.length) (h : latF (l.take i) key ver = (if t then some x else none))
    (hc : (gE l (i : Int)).key = key → (gE l (i : Int)).ver ≤ ver → t = true ∧ (gE l (i : Int)).ver < x.ver) : latF (l.take (i + 1)) key ver = (if t then some x else none) := by
  rw [latF_step hi, h, if_neg]
  cases t <;> simp_all [latB]
theorem latV_fin {l : List Itm} {key ver : Int} {x : Itm} {t : Bool} (h : latF l key ver = (if t then some x else none)) (h3 : t = false → x = default) : Value.tuple #[.agg (iK.enc x).toArray, .bool t] = latV l key ver := by
  cases t with
  | true => unfold latV; rw [h]; rfl
  | false => rw [h3 rfl]; unfold latV; rw [h]; rfl
def orZ : List Int → Int
  | [] => 0
  | x :: l => if x = 0 then orZ l else x
def cmpI (x y : Itm) : Int := orZ [cmpZ x.key y.key, cmpZ x.ver y.ver]
theorem orZ_nil {l : List Int} {i : Nat} (h : l.length ≤ i) : orZ (l.drop i) = 0 := by rw [List.drop_eq_nil_of_le h]; rfl
theorem orZ_cons {l : List Int} {i : Nat} (h : i < l.length) : orZ (l.drop i) = if gE l (i : Int) = 0 then orZ (l.drop (i + 1)) else gE l (i : Int) := by
  rw [List.drop_eq_getElem_cons h, orZ]; simp [gE, h]
theorem c_isNaN {a : Int} : Fn Try.prog 58 [.int .i64 a] [] [] (IsV (.bool false)) := by
  refine Fn.enter Try.func58 (by kernel_rfl) rfl (n := 6) rfl rfl (fun w => ?_)
  refine At.seq ?_
  refine At.plain [(false, 0)] rfl ?_
  refine At.e rfl rfl rfl rfl .all (R.assign .c) ?_
  refine At.nil ?_
  refine At.tN ?_
  refine At.seq ?_
  refine At.plain [(false, 0), (false, 1), (false, 2), (false, 3)] rfl ?_
  refine At.e rfl rfl rfl rfl .all (R.move (.t rfl)) ?_
  refine At.e rfl rfl rfl rfl .all (R.move (.t rfl)) ?_
  first | refine At.e rfl rfl rfl rfl .all (R.as (R.neq (.t rfl) (.t rfl)) (fun _ => congrArg Value.bool (congrArg Bool.not (decide_eq_true (by first | rfl | omega))))) ?_ | refine At.e rfl rfl rfl rfl .all (R.as (R.neq (.t rfl) (.t rfl)) (fun _ => congrArg Value.bool (congrArg Bool.not (decide_eq_false (by omega))))) ?_ | refine At.e rfl rfl rfl rfl .all (R.neq (.t rfl) (.t rfl)) ?_
  refine At.e rfl rfl rfl rfl .all (R.assign (.t rfl)) ?_
  refine At.nil ?_
  refine At.tN ?_
  refine At.ret ?_
  exact At.final rfl (.t rfl) (List.nil_sublist _) (⟨congrArg Value.bool (by simp), rfl, rfl⟩)

theorem c_Compare {a b : Int} : Fn Try.prog 49 [.int .i64 a, .int .i64 b] [] [] (IsV (.int .i64 (cmpZ a b))) := by
  refine Fn.enter Try.func49 (by kernel_rfl) rfl (n := 20) rfl rfl (fun w => ?_)
  refine At.seq ?_
  refine At.plain [(false, 0)] rfl ?_
  refine At.e rfl rfl rfl rfl .all (R.assign .c) ?_
  refine At.nil ?_
  refine At.tN ?_
  refine At.seq ?_
  refine At.plain [(false, 0), (false, 1), (false, 2)] rfl ?_
  refine At.e rfl rfl rfl rfl .all (R.move (.t rfl)) ?_
  refine At.callVR rfl rfl rfl (.cons (.t rfl) .nil) (by (first | exact .nil | exact .cons (by (first | exact rS M0 | exact wS M0 | exact rS M1 | exact wS M1 | exact rS M2 | exact wS M2 | exact rS M3 | exact wS M3 | exact rS M4 | exact wS M4 | exact rS M5 | exact wS M5 | exact rS M6 | exact wS M6 | exact rS M7 | exact wS M7 | exact RdIn.nil)) .nil | exact .cons (by (first | exact rS M0 | exact wS M0 | exact rS M1 | exact wS M1 | exact rS M2 | exact wS M2 | exact rS M3 | exact wS M3 | exact rS M4 | exact wS M4 | exact rS M5 | exact wS M5 | exact rS M6 | exact wS M6 | exact rS M7 | exact wS M7 | exact RdIn.nil)) (.blk (.st M0) .nil) | exact .cons (by (first | exact rS M0 | exact wS M0 | exact rS M1 | exact wS M1 | exact rS M2 | exact wS M2 | exact rS M3 | exact wS M3 | exact rS M4 | exact wS M4 | exact rS M5 | exact wS M5 | exact rS M6 | exact wS M6 | exact rS M7 | exact wS M7 | exact RdIn.nil)) (.blk (.st M1) .nil) | exact .blk (.st M0) .nil | exact .blk (.st M1) .nil | exact .blk (.st M2) .nil | exact .blk (.st M3) .nil | exact .cons (by (first | exact rS M0 | exact wS M0 | exact rS M1 | exact wS M1 | exact rS M2 | exact wS M2 | exact rS M3 | exact wS M3 | exact rS M4 | exact wS M4 | exact rS M5 | exact wS M5 | exact rS M6 | exact wS M6 | exact rS M7 | exact wS M7 | exact RdIn.nil)) (.cons (by (first | exact rS M0 | exact wS M0 | exact rS M1 | exact wS M1 | exact rS M2 | exact wS M2 | exact rS M3 | exact wS M3 | exact rS M4 | exact wS M4 | exact rS M5 | exact wS M5 | exact rS M6 | exact wS M6 | exact rS M7 | exact wS M7 | exact RdIn.nil)) .nil) | exact .cons (by (first | exact rS M0 | exact wS M0 | exact rS M1 | exact wS M1 | exact rS M2 | exact wS M2 | exact rS M3 | exact wS M3 | exact rS M4 | exact wS M4 | exact rS M5 | exact wS M5 | exact rS M6 | exact wS M6 | exact rS M7 | exact wS M7 | exact RdIn.nil)) (.cons (by (first | exact rS M0 | exact wS M0 | exact rS M1 | exact wS M1 | exact rS M2 | exact wS M2 | exact rS M3 | exact wS M3 | exact rS M4 | exact wS M4 | exact rS M5 | exact wS M5 | exact rS M6 | exact wS M6 | exact rS M7 | exact wS M7 | exact RdIn.nil)) (.cons (by (first | exact rS M0 | exact wS M0 | exact rS M1 | exact wS M1 | exact rS M2 | exact wS M2 | exact rS M3 | exact wS M3 | exact rS M4 | exact wS M4 | exact rS M5 | exact wS M5 | exact rS M6 | exact wS M6 | exact rS M7 | exact wS M7 | exact RdIn.nil)) .nil)))) (fun hg => c_isNaN) .all ?_
  refine At.e rfl rfl rfl rfl .all (R.assign (.t rfl)) ?_
  refine At.nil ?_
  refine At.tN ?_
  refine At.seq ?_
  refine At.plain [(false, 0), (false, 1), (false, 2)] rfl ?_
  refine At.e rfl rfl rfl rfl .all (R.move (.t rfl)) ?_
  refine At.callVR rfl rfl rfl (.cons (.t rfl) .nil) (by (first | exact .nil | exact .cons (by (first | exact rS M0 | exact wS M0 | exact rS M1 | exact wS M1 | exact rS M2 | exact wS M2 | exact rS M3 | exact wS M3 | exact rS M4 | exact wS M4 | exact rS M5 | exact wS M5 | exact rS M6 | exact wS M6 | exact rS M7 | exact wS M7 | exact RdIn.nil)) .nil | exact .cons (by (first | exact rS M0 | exact wS M0 | exact rS M1 | exact wS M1 | exact rS M2 | exact wS M2 | exact rS M3 | exact wS M3 | exact rS M4 | exact wS M4 | exact rS M5 | exact wS M5 | exact rS M6 | exact wS M6 | exact rS M7 | exact wS M7 | exact RdIn.nil)) (.blk (.st M0) .nil) | exact .cons (by (first | exact rS M0 | exact wS M0 | exact rS M1 | exact wS M1 | exact rS M2 | exact wS M2 | exact rS M3 | exact wS M3 | exact rS M4 | exact wS M4 | exact rS M5 | exact wS M5 | exact rS M6 | exact wS M6 | exact rS M7 | exact wS M7 | exact RdIn.nil)) (.blk (.st M1) .nil) | exact .blk (.st M0) .nil | exact .blk (.st M1) .nil | exact .blk (.st M2) .nil | exact .blk (.st M3) .nil | exact .cons (by (first | exact rS M0 | exact wS M0 | exact rS M1 | exact wS M1 | exact rS M2 | exact wS M2 | exact rS M3 | exact wS M3 | exact rS M4 | exact wS M4 | exact rS M5 | exact wS M5 | exact rS M6 | exact wS M6 | exact rS M7 | exact wS M7 | exact RdIn.nil)) (.cons (by (first | exact rS M0 | exact wS M0 | exact rS M1 | exact wS M1 | exact rS M2 | exact wS M2 | exact rS M3 | exact wS M3 | exact rS M4 | exact wS M4 | exact rS M5 | exact wS M5 | exact rS M6 | exact wS M6 | exact rS M7 | exact wS M7 | exact RdIn.nil)) .nil) | exact .cons (by (first | exact rS M0 | exact wS M0 | exact rS M1 | exact wS M1 | exact rS M2 | exact wS M2 | exact rS M3 | exact wS M3 | exact rS M4 | exact wS M4 | exact rS M5 | exact wS M5 | exact rS M6 | exact wS M6 | exact rS M7 | exact wS M7 | exact RdIn.nil)) (.cons (by (first | exact rS M0 | exact wS M0 | exact rS M1 | exact wS M1 | exact rS M2 | exact wS M2 | exact rS M3 | exact wS M3 | exact rS M4 | exact wS M4 | exact rS M5 | exact wS M5 | exact rS M6 | exact wS M6 | exact rS M7 | exact wS M7 | exact RdIn.nil)) (.cons (by (first | exact rS M0 | exact wS M0 | exact rS M1 | exact wS M1 | exact rS M2 | exact wS M2 | exact rS M3 | exact wS M3 | exact rS M4 | exact wS M4 | exact rS M5 | exact wS M5 | exact rS M6 | exact wS M6 | exact rS M7 | exact wS M7 | exact RdIn.nil)) .nil)))) (fun hg => c_isNaN) .all ?_
  refine At.e rfl rfl rfl rfl .all (R.assign (.t rfl)) ?_
  refine At.nil ?_
  refine At.tN ?_
  refine At.seq ?_
  refine At.seq ?_
  refine At.plain [(false, 0)] rfl ?_
  refine At.e rfl rfl rfl rfl .all (R.move (.t rfl)) ?_
  refine At.nil ?_
  refine At.tN ?_
  refine At.condF (.t rfl) ?_
  refine At.skip ?_
  refine At.tN ?_
  refine At.seq ?_
  refine At.seq ?_
  refine At.plain [(false, 0)] rfl ?_
  refine At.e rfl rfl rfl rfl .all (R.move (.t rfl)) ?_
  refine At.nil ?_
  refine At.tN ?_
  refine At.condF (.t rfl) ?_
  refine At.skip ?_
  refine At.tN ?_
  refine At.seq ?_
  refine At.seq ?_
  refine At.plain [(false, 0), (false, 1), (false, 2)] rfl ?_
  refine At.e rfl rfl rfl rfl .all (R.move (.t rfl)) ?_
  refine At.e rfl rfl rfl rfl .all (R.move (.t rfl)) ?_
  first | refine At.e rfl rfl rfl rfl .all (R.as (R.lss (.t rfl) (.t rfl)) (fun _ => congrArg Value.bool (decide_eq_true (by omega)))) ?_ | refine At.e rfl rfl rfl rfl .all (R.as (R.lss (.t rfl) (.t rfl)) (fun _ => congrArg Value.bool (decide_eq_false (by omega)))) ?_ | refine At.e rfl rfl rfl rfl .all (R.lss (.t rfl) (.t rfl)) ?_
  refine At.nil ?_
  refine At.tN ?_
  first | refine At.condD (.t rfl) (fun c3 => ?_) (fun c3 => ?_) | refine At.condN (.t rfl) (fun c3 => ?_) (fun c3 => ?_) | refine At.cond (.t rfl) (fun c3 => ?_) (fun c3 => ?_)
  · skip
    refine At.seq ?_
    refine At.plain [(false, 0)] rfl ?_
    refine At.e rfl rfl rfl rfl .all (R.assign .c) ?_
    refine At.nil ?_
    refine At.tN ?_
    refine At.ret ?_
    refine At.tR ?_
    exact At.final rfl (.t rfl) (List.nil_sublist _) (⟨congrArg (Value.int .i64) (by unfold cmpZ; first | rw [if_pos (by omega)] | rw [if_neg (by omega), if_pos (by omega)] | rw [if_neg (by omega), if_neg (by omega)]), rfl, rfl⟩)
  · skip
    refine At.skip ?_
    refine At.tN ?_
    refine At.seq ?_
    refine At.seq ?_
    refine At.plain [(false, 0), (false, 1), (false, 2)] rfl ?_
    refine At.e rfl rfl rfl rfl .all (R.move (.t rfl)) ?_
    refine At.e rfl rfl rfl rfl .all (R.move (.t rfl)) ?_
    first | refine At.e rfl rfl rfl rfl .all (R.as (R.gtr (.t rfl) (.t rfl)) (fun _ => congrArg Value.bool (decide_eq_true (by omega)))) ?_ | refine At.e rfl rfl rfl rfl .all (R.as (R.gtr (.t rfl) (.t rfl)) (fun _ => congrArg Value.bool (decide_eq_false (by omega)))) ?_ | refine At.e rfl rfl rfl rfl .all (R.gtr (.t rfl) (.t rfl)) ?_
    refine At.nil ?_
    refine At.tN ?_
    first | refine At.condD (.t rfl) (fun c4 => ?_) (fun c4 => ?_) | refine At.condN (.t rfl) (fun c4 => ?_) (fun c4 => ?_) | refine At.cond (.t rfl) (fun c4 => ?_) (fun c4 => ?_)
    · skip
      refine At.seq ?_
      refine At.plain [(false, 0)] rfl ?_
      refine At.e rfl rfl rfl rfl .all (R.assign .c) ?_
      refine At.nil ?_
      refine At.tN ?_
      refine At.ret ?_
      refine At.tR ?_
      exact At.final rfl (.t rfl) (List.nil_sublist _) (⟨congrArg (Value.int .i64) (by unfold cmpZ; first | rw [if_pos (by omega)] | rw [if_neg (by omega), if_pos (by omega)] | rw [if_neg (by omega), if_neg (by omega)]), rfl, rfl⟩)
    · skip
      refine At.skip ?_
      refine At.tN ?_
      refine At.seq ?_
      refine At.plain [(false, 0)] rfl ?_
      refine At.e rfl rfl rfl rfl .all (R.assign .c) ?_
      refine At.nil ?_
      refine At.tN ?_
      refine At.ret ?_
      exact At.final rfl (.t rfl) (List.nil_sublist _) (⟨congrArg (Value.int .i64) (by unfold cmpZ; first | rw [if_pos (by omega)] | rw [if_neg (by omega), if_pos (by omega)] | rw [if_neg (by omega), if_neg (by omega)]), rfl, rfl⟩)

theorem c_Or {u : Value} {l : List Int} : Fn Try.prog 48 [u] [rdE zK u l] [] (IsV (.int .i64 (orZ l))) := by
  refine Fn.enter Try.func48 (by kernel_rfl) rfl (n := 18) rfl rfl (fun w => ?_)
  refine At.len (v := u) (by (first | exact rS M0 | exact wS M0 | exact rS M1 | exact wS M1 | exact rS M2 | exact wS M2 | exact rS M3 | exact wS M3 | exact rS M4 | exact wS M4 | exact rS M5 | exact wS M5 | exact rS M6 | exact wS M6 | exact rS M7 | exact wS M7 | exact RdIn.nil)) (fun hl1 => ?_)
  refine At.seq ?_
  refine At.plain [(false, 0)] rfl ?_
  refine At.e rfl rfl rfl rfl .all (R.assign .c) ?_
  refine At.nil ?_
  refine At.tN ?_
  refine At.seq ?_
  refine At.plain [(false, 0)] rfl ?_
  refine At.e rfl rfl rfl rfl .all (R.assign .c) ?_
  refine At.nil ?_
  refine At.tN ?_
  refine At.seq ?_
  refine At.seq ?_
  refine At.plain [(false, 0), (false, 1), (false, 2)] rfl ?_
  refine At.e rfl rfl rfl rfl .all (R.move (.t rfl)) ?_
  first | refine At.e rfl rfl rfl rfl .all (R.lenRd Try.underlying32 (.t rfl) (by (first | exact rS M0 | exact wS M0 | exact rS M1 | exact wS M1 | exact rS M2 | exact wS M2 | exact rS M3 | exact wS M3 | exact rS M4 | exact wS M4 | exact rS M5 | exact wS M5 | exact rS M6 | exact wS M6 | exact rS M7 | exact wS M7 | exact RdIn.nil))) ?_ | refine At.e rfl rfl rfl rfl .all (R.lenSl Try.underlying32 (.t rfl)) ?_
  refine At.e rfl rfl rfl rfl .all (R.move .c) ?_
  refine At.nil ?_
  refine At.tN ?_
  refine At.block ?_
  refine At.loop1 (fun (i : Nat) => i ≤ l.length ∧ orZ l = orZ (l.drop i)) (fun (i : Nat) => l.length - i) (fun (i : Nat) => [(3, true, .int .i64 0), (6, true, u), (7, true, .int .i64 l.length), (8, true, .int .i64 i)]) (fun (i : Nat) => []) (fun (i : Nat) => []) (0) ⟨Nat.zero_le _, rfl⟩ (.cons rfl (.cons rfl (.cons rfl (.cons rfl .nil)))) (by ((repeat (first | exact List.Sublist.refl _ | exact List.nil_sublist _ | apply List.Sublist.cons_cons | apply List.Sublist.cons)))) rfl (fun i hi => ?_)
  obtain ⟨hi1, hi2⟩ := hi
  refine At.seq ?_
  refine At.plain [(false, 0)] rfl ?_
  first | refine At.e rfl rfl rfl rfl .all (R.as (R.lss (.t rfl) (.t rfl)) (fun _ => congrArg Value.bool (decide_eq_true (by omega)))) ?_ | refine At.e rfl rfl rfl rfl .all (R.as (R.lss (.t rfl) (.t rfl)) (fun _ => congrArg Value.bool (decide_eq_false (by omega)))) ?_ | refine At.e rfl rfl rfl rfl .all (R.lss (.t rfl) (.t rfl)) ?_
  refine At.nil ?_
  refine At.tN ?_
  refine At.seq ?_
  first | refine At.condD (.t rfl) (fun c1 => ?_) (fun c1 => ?_) | refine At.condN (.t rfl) (fun c1 => ?_) (fun c1 => ?_) | refine At.cond (.t rfl) (fun c1 => ?_) (fun c1 => ?_)
  · skip
    refine At.skip ?_
    refine At.tN ?_
    refine At.seq ?_
    refine At.block ?_
    refine At.seq ?_
    refine At.plain [(false, 0), (false, 1), (false, 2)] rfl ?_
    first | refine At.e rfl rfl rfl rfl .all (R.indexRd Try.underlying32 sz_3 (.t rfl) (by (first | exact rS M0 | exact wS M0 | exact rS M1 | exact wS M1 | exact rS M2 | exact wS M2 | exact rS M3 | exact wS M3 | exact rS M4 | exact wS M4 | exact rS M5 | exact wS M5 | exact rS M6 | exact wS M6 | exact rS M7 | exact wS M7 | exact RdIn.nil)) (.t rfl) (fun hg => (by first | omega | ((simp [-List.length_eq_zero_iff] at hg; omega)) | (simp only [List.length_append, List.length_cons, List.length_nil, List.length_take, List.length_drop]; omega)))) ?_ | refine At.e rfl rfl rfl rfl .all (R.indexSlE Try.underlying32 sz_3 (.t rfl) (.t rfl) (fun hg => by first | omega | (simp [-List.length_eq_zero_iff] at hg; omega))) ?_
    first | refine At.e rfl rfl rfl rfl .all (R.loadRd Try.underlying3 rfl (.t rfl) (by (first | exact rS M0 | exact wS M0 | exact rS M1 | exact wS M1 | exact rS M2 | exact wS M2 | exact rS M3 | exact wS M3 | exact rS M4 | exact wS M4 | exact rS M5 | exact wS M5 | exact rS M6 | exact wS M6 | exact rS M7 | exact wS M7 | exact RdIn.nil)) (fun hg => by exact Ek.getN rfl (by first | omega | ((simp [-List.length_eq_zero_iff] at hg; omega)) | (simp only [List.length_append, List.length_cons, List.length_nil, List.length_take, List.length_drop]; omega)))) ?_ | refine At.e rfl rfl rfl rfl .all (R.loadRd Try.underlying3 rfl (.t rfl) (by (first | exact rS M0 | exact wS M0 | exact rS M1 | exact wS M1 | exact rS M2 | exact wS M2 | exact rS M3 | exact wS M3 | exact rS M4 | exact wS M4 | exact rS M5 | exact wS M5 | exact rS M6 | exact wS M6 | exact rS M7 | exact wS M7 | exact RdIn.nil)) (fun hg => by exact Ek.get0 rfl (by first | omega | ((simp [-List.length_eq_zero_iff] at hg; omega)) | (simp only [List.length_append, List.length_cons, List.length_nil, List.length_take, List.length_drop]; omega)))) ?_
    refine At.e rfl rfl rfl rfl .all (R.assign (.t rfl)) ?_
    refine At.nil ?_
    refine At.tN ?_
    refine At.seq ?_
    refine At.plain [(false, 0), (false, 1), (false, 2)] rfl ?_
    refine At.e rfl rfl rfl rfl .all (R.move (.t rfl)) ?_
    refine At.e rfl rfl rfl rfl .all (R.move (.t rfl)) ?_
    first | refine At.e rfl rfl rfl rfl .all (R.as (R.neq (.t rfl) (.t rfl)) (fun _ => congrArg Value.bool (congrArg Bool.not (decide_eq_true (by first | rfl | omega))))) ?_ | refine At.e rfl rfl rfl rfl .all (R.as (R.neq (.t rfl) (.t rfl)) (fun _ => congrArg Value.bool (congrArg Bool.not (decide_eq_false (by omega))))) ?_ | refine At.e rfl rfl rfl rfl .all (R.neq (.t rfl) (.t rfl)) ?_
    refine At.nil ?_
    refine At.tN ?_
    first | refine At.condD (.t rfl) (fun c2 => ?_) (fun c2 => ?_) | refine At.condN (.t rfl) (fun c2 => ?_) (fun c2 => ?_) | refine At.cond (.t rfl) (fun c2 => ?_) (fun c2 => ?_)
    · skip
      refine At.seq ?_
      refine At.plain [(false, 0), (false, 1)] rfl ?_
      refine At.e rfl rfl rfl rfl .all (R.move (.t rfl)) ?_
      refine At.e rfl rfl rfl rfl .all (R.assign (.t rfl)) ?_
      refine At.nil ?_
      refine At.tN ?_
      refine At.ret ?_
      refine At.bR ?_
      refine At.tR ?_
      refine At.tR ?_
      refine At.bR ?_
      refine At.tR ?_
      exact At.final rfl (.t rfl) (List.nil_sublist _) (⟨congrArg (Value.int .i64) (by first | (rw [hi2, orZ_nil (by omega)]) | (rw [hi2, orZ_cons (by omega), if_neg c2])), rfl, rfl⟩)
    · skip
      refine At.skip ?_
      refine At.bN ?_
      refine At.tN ?_
      refine At.plain [(false, 0), (false, 1)] rfl ?_
      first | refine At.e rfl rfl rfl rfl .all (R.addI (.t rfl) .c (fun hg => by first | omega | (simp [-List.length_eq_zero_iff] at hg; omega))) ?_ | refine At.e rfl rfl rfl rfl .all (R.add (.t rfl) .c) ?_
      refine At.e rfl rfl rfl rfl .all (R.move (.t rfl)) ?_
      refine At.nil ?_
      refine At.tN ?_
      exact At.again1 (i + 1) ⟨by omega, by rw [hi2, orZ_cons (by omega), if_pos c2]⟩ (by omega) (.cons rfl (.cons rfl (.cons rfl (.cons rfl .nil)))) (by ((repeat (first | exact List.Sublist.refl _ | exact List.nil_sublist _ | apply List.Sublist.cons_cons | apply List.Sublist.cons)))) rfl
  · skip
    refine At.exit ?_
    refine At.tE ?_
    refine At.tE ?_
    refine At.bE ?_
    refine At.tN ?_
    refine At.seq ?_
    refine At.plain [(false, 0), (false, 1)] rfl ?_
    refine At.e rfl rfl rfl rfl .all (R.move (.t rfl)) ?_
    refine At.e rfl rfl rfl rfl .all (R.assign (.t rfl)) ?_
    refine At.nil ?_
    refine At.tN ?_
    refine At.ret ?_
    exact At.final rfl (.t rfl) (List.nil_sublist _) (⟨congrArg (Value.int .i64) (by first | (rw [hi2, orZ_nil (by omega)]) | (rw [hi2, orZ_cons (by omega), if_neg c2])), rfl, rfl⟩)

theorem c_cmpI {x y : Itm} : Fn Try.prog 47 [.agg (iK.enc x).toArray, .agg (iK.enc y).toArray] [] [] (IsV (.int .i64 (cmpI x y))) := by
  refine Fn.enter Try.func47 (by kernel_rfl) rfl (n := 17) rfl rfl (fun w => ?_)
  refine At.seq ?_
  refine At.plain [(false, 0), (false, 1), (false, 2)] rfl ?_
  refine At.box rfl rfl rfl (.t rfl) (fun b1 hb1 => ⟨.all, ?_⟩)
  refine At.box rfl rfl rfl (.t rfl) (fun b2 hb2 => ⟨.all, ?_⟩)
  refine At.e rfl rfl rfl rfl .all (R.assign .c) ?_
  refine At.nil ?_
  refine At.tN ?_
  refine At.seq ?_
  refine At.drawK [(true, 0), (true, 1), (true, 2), (true, 3), (true, 5), (true, 6), (true, 7), (true, 8), (false, 4), (false, 9), (false, 10), (false, 11), (true, 12)] (by kernel_rfl) (by kernel_rfl) ?_
  first | refine At.s rfl rfl rfl rfl (Cl.kept fun _ h => h) (R.fieldAddr fo_43_0 (.t rfl)) ?_ | refine At.s rfl rfl rfl rfl (Cl.kept fun _ h => h) (R.fieldRd fo_43_0 (.t rfl) (by (first | exact rK M0 | exact wK M0 | exact rK M1 | exact wK M1 | exact rK M2 | exact wK M2 | exact rK M3 | exact wK M3 | exact rK M4 | exact wK M4 | exact rK M5 | exact wK M5 | exact rK M6 | exact wK M6 | exact rK M7 | exact wK M7 | exact RdIn.nil)) (fun hg => (by first | omega | ((simp [-List.length_eq_zero_iff] at hg; omega)) | (simp only [List.length_append, List.length_cons, List.length_nil, List.length_take, List.length_drop]; omega)))) ?_
  refine At.s rfl rfl rfl rfl (Cl.kept fun _ h => h) (R.load Try.underlying3 rfl (.t rfl) (by first | exact cK M0 rfl | exact cK M1 rfl | exact cK M2 rfl | exact cK M3 rfl | exact cK M4 rfl | exact cK M5 rfl | exact cK M6 rfl | exact cK M7 rfl)) ?_
  first | refine At.s rfl rfl rfl rfl (Cl.kept fun _ h => h) (R.fieldAddr fo_43_0 (.t rfl)) ?_ | refine At.s rfl rfl rfl rfl (Cl.kept fun _ h => h) (R.fieldRd fo_43_0 (.t rfl) (by (first | exact rK M0 | exact wK M0 | exact rK M1 | exact wK M1 | exact rK M2 | exact wK M2 | exact rK M3 | exact wK M3 | exact rK M4 | exact wK M4 | exact rK M5 | exact wK M5 | exact rK M6 | exact wK M6 | exact rK M7 | exact wK M7 | exact RdIn.nil)) (fun hg => (by first | omega | ((simp [-List.length_eq_zero_iff] at hg; omega)) | (simp only [List.length_append, List.length_cons, List.length_nil, List.length_take, List.length_drop]; omega)))) ?_
  refine At.s rfl rfl rfl rfl (Cl.kept fun _ h => h) (R.load Try.underlying3 rfl (.t rfl) (by first | exact cK M0 rfl | exact cK M1 rfl | exact cK M2 rfl | exact cK M3 rfl | exact cK M4 rfl | exact cK M5 rfl | exact cK M6 rfl | exact cK M7 rfl)) ?_
  first | refine At.s rfl rfl rfl rfl (Cl.kept fun _ h => h) (R.fieldAddr fo_43_1 (.t rfl)) ?_ | refine At.s rfl rfl rfl rfl (Cl.kept fun _ h => h) (R.fieldRd fo_43_1 (.t rfl) (by (first | exact rK M0 | exact wK M0 | exact rK M1 | exact wK M1 | exact rK M2 | exact wK M2 | exact rK M3 | exact wK M3 | exact rK M4 | exact wK M4 | exact rK M5 | exact wK M5 | exact rK M6 | exact wK M6 | exact rK M7 | exact wK M7 | exact RdIn.nil)) (fun hg => (by first | omega | ((simp [-List.length_eq_zero_iff] at hg; omega)) | (simp only [List.length_append, List.length_cons, List.length_nil, List.length_take, List.length_drop]; omega)))) ?_
  refine At.s rfl rfl rfl rfl (Cl.kept fun _ h => h) (R.load Try.underlying3 rfl (.t rfl) (by first | exact cK M0 rfl | exact cK M1 rfl | exact cK M2 rfl | exact cK M3 rfl | exact cK M4 rfl | exact cK M5 rfl | exact cK M6 rfl | exact cK M7 rfl)) ?_
  first | refine At.s rfl rfl rfl rfl (Cl.kept fun _ h => h) (R.fieldAddr fo_43_1 (.t rfl)) ?_ | refine At.s rfl rfl rfl rfl (Cl.kept fun _ h => h) (R.fieldRd fo_43_1 (.t rfl) (by (first | exact rK M0 | exact wK M0 | exact rK M1 | exact wK M1 | exact rK M2 | exact wK M2 | exact rK M3 | exact wK M3 | exact rK M4 | exact wK M4 | exact rK M5 | exact wK M5 | exact rK M6 | exact wK M6 | exact rK M7 | exact wK M7 | exact RdIn.nil)) (fun hg => (by first | omega | ((simp [-List.length_eq_zero_iff] at hg; omega)) | (simp only [List.length_append, List.length_cons, List.length_nil, List.length_take, List.length_drop]; omega)))) ?_
  refine At.s rfl rfl rfl rfl (Cl.kept fun _ h => h) (R.load Try.underlying3 rfl (.t rfl) (by first | exact cK M0 rfl | exact cK M1 rfl | exact cK M2 rfl | exact cK M3 rfl | exact cK M4 rfl | exact cK M5 rfl | exact cK M6 rfl | exact cK M7 rfl)) ?_
  refine At.callVR rfl rfl rfl (.cons (.t rfl) (.cons (.t rfl) .nil)) (by (first | exact .nil | exact .cons (by (first | exact rS M0 | exact wS M0 | exact rS M1 | exact wS M1 | exact rS M2 | exact wS M2 | exact rS M3 | exact wS M3 | exact rS M4 | exact wS M4 | exact rS M5 | exact wS M5 | exact rS M6 | exact wS M6 | exact rS M7 | exact wS M7 | exact RdIn.nil)) .nil | exact .cons (by (first | exact rS M0 | exact wS M0 | exact rS M1 | exact wS M1 | exact rS M2 | exact wS M2 | exact rS M3 | exact wS M3 | exact rS M4 | exact wS M4 | exact rS M5 | exact wS M5 | exact rS M6 | exact wS M6 | exact rS M7 | exact wS M7 | exact RdIn.nil)) (.blk (.st M0) .nil) | exact .cons (by (first | exact rS M0 | exact wS M0 | exact rS M1 | exact wS M1 | exact rS M2 | exact wS M2 | exact rS M3 | exact wS M3 | exact rS M4 | exact wS M4 | exact rS M5 | exact wS M5 | exact rS M6 | exact wS M6 | exact rS M7 | exact wS M7 | exact RdIn.nil)) (.blk (.st M1) .nil) | exact .blk (.st M0) .nil | exact .blk (.st M1) .nil | exact .blk (.st M2) .nil | exact .blk (.st M3) .nil | exact .cons (by (first | exact rS M0 | exact wS M0 | exact rS M1 | exact wS M1 | exact rS M2 | exact wS M2 | exact rS M3 | exact wS M3 | exact rS M4 | exact wS M4 | exact rS M5 | exact wS M5 | exact rS M6 | exact wS M6 | exact rS M7 | exact wS M7 | exact RdIn.nil)) (.cons (by (first | exact rS M0 | exact wS M0 | exact rS M1 | exact wS M1 | exact rS M2 | exact wS M2 | exact rS M3 | exact wS M3 | exact rS M4 | exact wS M4 | exact rS M5 | exact wS M5 | exact rS M6 | exact wS M6 | exact rS M7 | exact wS M7 | exact RdIn.nil)) .nil) | exact .cons (by (first | exact rS M0 | exact wS M0 | exact rS M1 | exact wS M1 | exact rS M2 | exact wS M2 | exact rS M3 | exact wS M3 | exact rS M4 | exact wS M4 | exact rS M5 | exact wS M5 | exact rS M6 | exact wS M6 | exact rS M7 | exact wS M7 | exact RdIn.nil)) (.cons (by (first | exact rS M0 | exact wS M0 | exact rS M1 | exact wS M1 | exact rS M2 | exact wS M2 | exact rS M3 | exact wS M3 | exact rS M4 | exact wS M4 | exact rS M5 | exact wS M5 | exact rS M6 | exact wS M6 | exact rS M7 | exact wS M7 | exact RdIn.nil)) (.cons (by (first | exact rS M0 | exact wS M0 | exact rS M1 | exact wS M1 | exact rS M2 | exact wS M2 | exact rS M3 | exact wS M3 | exact rS M4 | exact wS M4 | exact rS M5 | exact wS M5 | exact rS M6 | exact wS M6 | exact rS M7 | exact wS M7 | exact RdIn.nil)) .nil)))) (fun hg => c_Compare) (Cl.kept (by (first | exact fun _ h => h | exact keepOf (by ((repeat (first | exact List.Sublist.refl _ | exact List.nil_sublist _ | apply List.Sublist.cons_cons | apply List.Sublist.cons))))))) ?_
  refine At.callVR rfl rfl rfl (.cons (.t rfl) (.cons (.t rfl) .nil)) (by (first | exact .nil | exact .cons (by (first | exact rS M0 | exact wS M0 | exact rS M1 | exact wS M1 | exact rS M2 | exact wS M2 | exact rS M3 | exact wS M3 | exact rS M4 | exact wS M4 | exact rS M5 | exact wS M5 | exact rS M6 | exact wS M6 | exact rS M7 | exact wS M7 | exact RdIn.nil)) .nil | exact .cons (by (first | exact rS M0 | exact wS M0 | exact rS M1 | exact wS M1 | exact rS M2 | exact wS M2 | exact rS M3 | exact wS M3 | exact rS M4 | exact wS M4 | exact rS M5 | exact wS M5 | exact rS M6 | exact wS M6 | exact rS M7 | exact wS M7 | exact RdIn.nil)) (.blk (.st M0) .nil) | exact .cons (by (first | exact rS M0 | exact wS M0 | exact rS M1 | exact wS M1 | exact rS M2 | exact wS M2 | exact rS M3 | exact wS M3 | exact rS M4 | exact wS M4 | exact rS M5 | exact wS M5 | exact rS M6 | exact wS M6 | exact rS M7 | exact wS M7 | exact RdIn.nil)) (.blk (.st M1) .nil) | exact .blk (.st M0) .nil | exact .blk (.st M1) .nil | exact .blk (.st M2) .nil | exact .blk (.st M3) .nil | exact .cons (by (first | exact rS M0 | exact wS M0 | exact rS M1 | exact wS M1 | exact rS M2 | exact wS M2 | exact rS M3 | exact wS M3 | exact rS M4 | exact wS M4 | exact rS M5 | exact wS M5 | exact rS M6 | exact wS M6 | exact rS M7 | exact wS M7 | exact RdIn.nil)) (.cons (by (first | exact rS M0 | exact wS M0 | exact rS M1 | exact wS M1 | exact rS M2 | exact wS M2 | exact rS M3 | exact wS M3 | exact rS M4 | exact wS M4 | exact rS M5 | exact wS M5 | exact rS M6 | exact wS M6 | exact rS M7 | exact wS M7 | exact RdIn.nil)) .nil) | exact .cons (by (first | exact rS M0 | exact wS M0 | exact rS M1 | exact wS M1 | exact rS M2 | exact wS M2 | exact rS M3 | exact wS M3 | exact rS M4 | exact wS M4 | exact rS M5 | exact wS M5 | exact rS M6 | exact wS M6 | exact rS M7 | exact wS M7 | exact RdIn.nil)) (.cons (by (first | exact rS M0 | exact wS M0 | exact rS M1 | exact wS M1 | exact rS M2 | exact wS M2 | exact rS M3 | exact wS M3 | exact rS M4 | exact wS M4 | exact rS M5 | exact wS M5 | exact rS M6 | exact wS M6 | exact rS M7 | exact wS M7 | exact RdIn.nil)) (.cons (by (first | exact rS M0 | exact wS M0 | exact rS M1 | exact wS M1 | exact rS M2 | exact wS M2 | exact rS M3 | exact wS M3 | exact rS M4 | exact wS M4 | exact rS M5 | exact wS M5 | exact rS M6 | exact wS M6 | exact rS M7 | exact wS M7 | exact RdIn.nil)) .nil)))) (fun hg => c_Compare) (Cl.kept (by (first | exact fun _ h => h | exact keepOf (by ((repeat (first | exact List.Sublist.refl _ | exact List.nil_sublist _ | apply List.Sublist.cons_cons | apply List.Sublist.cons))))))) ?_
  refine At.lit (k := zK) rfl rfl rfl Try.underlying32 et_3 (.cons (.t rfl) (.cons (.t rfl) .nil)) (.cons rfl (.cons rfl .nil)) rfl rfl rfl (fun v1 => ⟨(Cl.kept (by (first | exact fun _ h => h | exact keepOf (by ((repeat (first | exact List.Sublist.refl _ | exact List.nil_sublist _ | apply List.Sublist.cons_cons | apply List.Sublist.cons))))))), ?_⟩)
  refine At.callVR rfl rfl rfl (.cons (.t rfl) .nil) (by (first | exact .nil | exact .cons (by (first | exact rS M0 | exact wS M0 | exact rS M1 | exact wS M1 | exact rS M2 | exact wS M2 | exact rS M3 | exact wS M3 | exact rS M4 | exact wS M4 | exact rS M5 | exact wS M5 | exact rS M6 | exact wS M6 | exact rS M7 | exact wS M7 | exact RdIn.nil)) .nil | exact .cons (by (first | exact rS M0 | exact wS M0 | exact rS M1 | exact wS M1 | exact rS M2 | exact wS M2 | exact rS M3 | exact wS M3 | exact rS M4 | exact wS M4 | exact rS M5 | exact wS M5 | exact rS M6 | exact wS M6 | exact rS M7 | exact wS M7 | exact RdIn.nil)) (.blk (.st M0) .nil) | exact .cons (by (first | exact rS M0 | exact wS M0 | exact rS M1 | exact wS M1 | exact rS M2 | exact wS M2 | exact rS M3 | exact wS M3 | exact rS M4 | exact wS M4 | exact rS M5 | exact wS M5 | exact rS M6 | exact wS M6 | exact rS M7 | exact wS M7 | exact RdIn.nil)) (.blk (.st M1) .nil) | exact .blk (.st M0) .nil | exact .blk (.st M1) .nil | exact .blk (.st M2) .nil | exact .blk (.st M3) .nil | exact .cons (by (first | exact rS M0 | exact wS M0 | exact rS M1 | exact wS M1 | exact rS M2 | exact wS M2 | exact rS M3 | exact wS M3 | exact rS M4 | exact wS M4 | exact rS M5 | exact wS M5 | exact rS M6 | exact wS M6 | exact rS M7 | exact wS M7 | exact RdIn.nil)) (.cons (by (first | exact rS M0 | exact wS M0 | exact rS M1 | exact wS M1 | exact rS M2 | exact wS M2 | exact rS M3 | exact wS M3 | exact rS M4 | exact wS M4 | exact rS M5 | exact wS M5 | exact rS M6 | exact wS M6 | exact rS M7 | exact wS M7 | exact RdIn.nil)) .nil) | exact .cons (by (first | exact rS M0 | exact wS M0 | exact rS M1 | exact wS M1 | exact rS M2 | exact wS M2 | exact rS M3 | exact wS M3 | exact rS M4 | exact wS M4 | exact rS M5 | exact wS M5 | exact rS M6 | exact wS M6 | exact rS M7 | exact wS M7 | exact RdIn.nil)) (.cons (by (first | exact rS M0 | exact wS M0 | exact rS M1 | exact wS M1 | exact rS M2 | exact wS M2 | exact rS M3 | exact wS M3 | exact rS M4 | exact wS M4 | exact rS M5 | exact wS M5 | exact rS M6 | exact wS M6 | exact rS M7 | exact wS M7 | exact RdIn.nil)) (.cons (by (first | exact rS M0 | exact wS M0 | exact rS M1 | exact wS M1 | exact rS M2 | exact wS M2 | exact rS M3 | exact wS M3 | exact rS M4 | exact wS M4 | exact rS M5 | exact wS M5 | exact rS M6 | exact wS M6 | exact rS M7 | exact wS M7 | exact RdIn.nil)) .nil)))) (fun hg => c_Or) (Cl.kept (by (first | exact fun _ h => h | exact keepOf (by ((repeat (first | exact List.Sublist.refl _ | exact List.nil_sublist _ | apply List.Sublist.cons_cons | apply List.Sublist.cons))))))) ?_
  refine At.s rfl rfl rfl rfl (Cl.kept (by (first | exact fun _ h => h | exact keepOf (by ((repeat (first | exact List.Sublist.refl _ | exact List.nil_sublist _ | apply List.Sublist.cons_cons | apply List.Sublist.cons))))))) (R.assign (.t rfl)) ?_
  refine At.nil ?_
  refine At.tN ?_
  refine At.ret ?_
  exact At.final (N' := []) rfl (.t rfl) (by ((repeat (first | exact List.Sublist.refl _ | exact List.nil_sublist _ | apply List.Sublist.cons_cons | apply List.Sublist.cons)))) (⟨congrArg (Value.int .i64) (rfl), rfl, rfl⟩)

theorem c_Clone {u : Value} {l : List Itm} (hL : l.length ≤ 1000) : Fn Try.prog 41 [u] [rdE iK u l] [] (IsR iK 43 l) := by
  refine Fn.enter Try.func41 (by kernel_rfl) rfl (n := 8) rfl rfl (fun w => ?_)
  refine At.sliceForm (v := u) (by (first | exact rS M0 | exact wS M0 | exact rS M1 | exact wS M1 | exact rS M2 | exact wS M2 | exact rS M3 | exact wS M3 | exact rS M4 | exact wS M4 | exact rS M5 | exact wS M5 | exact rS M6 | exact wS M6 | exact rS M7 | exact wS M7 | exact RdIn.nil)) (fun A cap hv hcap hA => ?_)
  subst hv
  refine At.seq ?_
  refine At.plain [(false, 0)] rfl ?_
  refine At.e rfl rfl rfl rfl .all (R.assign .c) ?_
  refine At.nil ?_
  refine At.tN ?_
  refine At.seq ?_
  refine At.seq ?_
  refine At.plain [(false, 0), (false, 1)] rfl ?_
  refine At.e rfl rfl rfl rfl .all (R.move (.t rfl)) ?_
  refine At.e rfl rfl rfl rfl .all (R.eqlNilS Try.underlying22 (.t rfl)) ?_
  refine At.nil ?_
  refine At.tN ?_
  first | refine At.condD (.t rfl) (fun c1 => ?_) (fun c1 => ?_) | refine At.condN (.t rfl) (fun c1 => ?_) (fun c1 => ?_) | refine At.cond (.t rfl) (fun c1 => ?_) (fun c1 => ?_)
  · obtain rfl : A = none := (by simpa using c1); have h0 : l = [] := List.eq_nil_of_length_eq_zero (by rcases Nat.eq_zero_or_pos l.length with h | h; exact h; obtain ⟨b, o, hbo⟩ := hA h; cases hbo); subst h0
    refine At.seq ?_
    refine At.nilRow iK 43 ?_
    refine At.plain [(false, 0)] rfl ?_
    refine At.e rfl rfl rfl rfl .all (R.assign .c) ?_
    refine At.nil ?_
    refine At.tN ?_
    refine At.ret ?_
    refine At.tR ?_
    exact At.final (N' := [rowE iK 43 (.slice none 0 0) []]) rfl (.t rfl) (by ((repeat (first | exact List.Sublist.refl _ | exact List.nil_sublist _ | apply List.Sublist.cons_cons | apply List.Sublist.cons)))) (⟨rfl, rfl⟩)
  · skip
    refine At.skip ?_
    refine At.tN ?_
    refine At.seq ?_
    refine At.plain [(false, 0), (false, 1), (false, 2), (false, 3)] rfl ?_
    refine At.lit (k := iK) rfl rfl rfl Try.underlying22 et_43 .nil .nil rfl rfl rfl (fun v1 => ⟨.all, ?_⟩)
    refine At.e rfl rfl rfl rfl .all (R.move (.t rfl)) ?_
    refine At.app (k := iK) rfl rfl rfl Try.underlying22 et_43 (.t rfl) (.t rfl) (fun _ => by (first | exact U0 | exact U1 | exact U2 | exact U3 | exact U4 | exact U5 | exact U6 | exact U7)) (by (first | exact rS M0 | exact wS M0 | exact rS M1 | exact wS M1 | exact rS M2 | exact wS M2 | exact rS M3 | exact wS M3 | exact rS M4 | exact wS M4 | exact rS M5 | exact wS M5 | exact rS M6 | exact wS M6 | exact rS M7 | exact wS M7 | exact RdIn.nil)) (by first | (constructor <;> omega) | (simp <;> omega) | (simp only [List.length_append, List.length_cons, List.length_nil, List.length_take, List.length_drop]; omega)) (fun v2 => ⟨.all, ?_⟩)
    refine At.e rfl rfl rfl rfl .all (R.assign (.t rfl)) ?_
    refine At.nil ?_
    refine At.tN ?_
    refine At.ret ?_
    exact At.final (N' := [rowE iK 43 v2 l]) rfl (.t rfl) (by ((repeat (first | exact List.Sublist.refl _ | exact List.nil_sublist _ | apply List.Sublist.cons_cons | apply List.Sublist.cons)))) (⟨rfl, rfl⟩)

theorem c_Latest {u : Value} {l : List Itm} {key ver : Int} : Fn Try.prog 33 [u, .int .i64 key, .int .i64 ver] [rdE iK u l] [] (IsV (latV l key ver)) := by
  refine Fn.enter Try.func33 (by kernel_rfl) rfl (n := 44) rfl rfl (fun w => ?_)
  refine At.len (v := u) (by (first | exact rS M0 | exact wS M0 | exact rS M1 | exact wS M1 | exact rS M2 | exact wS M2 | exact rS M3 | exact wS M3 | exact rS M4 | exact wS M4 | exact rS M5 | exact wS M5 | exact rS M6 | exact wS M6 | exact rS M7 | exact wS M7 | exact RdIn.nil)) (fun hl1 => ?_)
  refine At.seq ?_
  refine At.plain [(false, 0), (false, 1)] rfl ?_
  refine At.alloc rfl rfl rfl ze_43 (fun b1 hb1 => ⟨.all, ?_⟩)
  refine At.e rfl rfl rfl rfl .all (R.assign .c) ?_
  refine At.nil ?_
  refine At.tN ?_
  refine At.seq ?_
  refine At.plain [(false, 0), (false, 1), (false, 2), (false, 3)] rfl ?_
  refine At.e rfl rfl rfl rfl .all (R.build bt_43 .nil .nil rfl) ?_
  refine At.alloc rfl rfl rfl ze_43 (fun b2 hb2 => ⟨.all, ?_⟩)
  first | refine At.stN rfl rfl sz_43 (.t rfl) (.t rfl) rfl rfl rfl (.n U0) ⟨.all, ?_⟩ | refine At.stN rfl rfl sz_43 (.t rfl) (.t rfl) rfl rfl rfl (.n U1) ⟨.all, ?_⟩ | refine At.stN rfl rfl sz_43 (.t rfl) (.t rfl) rfl rfl rfl (.n U2) ⟨.all, ?_⟩ | refine At.stN rfl rfl sz_43 (.t rfl) (.t rfl) rfl rfl rfl (.n U3) ⟨.all, ?_⟩ | refine At.stN rfl rfl sz_43 (.t rfl) (.t rfl) rfl rfl rfl (.n U4) ⟨.all, ?_⟩ | refine At.stN rfl rfl sz_43 (.t rfl) (.t rfl) rfl rfl rfl (.n U5) ⟨.all, ?_⟩ | refine At.stN rfl rfl sz_43 (.t rfl) (.t rfl) rfl rfl rfl (.n U6) ⟨.all, ?_⟩ | refine At.stN rfl rfl sz_43 (.t rfl) (.t rfl) rfl rfl rfl (.n U7) ⟨.all, ?_⟩ | refine At.stN rfl rfl sz_43 (.t rfl) (.t rfl) rfl rfl rfl (.h U0) ⟨.all, ?_⟩ | refine At.stN rfl rfl sz_43 (.t rfl) (.t rfl) rfl rfl rfl (.h U1) ⟨.all, ?_⟩ | refine At.stN rfl rfl sz_43 (.t rfl) (.t rfl) rfl rfl rfl (.h U2) ⟨.all, ?_⟩ | refine At.stN rfl rfl sz_43 (.t rfl) (.t rfl) rfl rfl rfl (.h U3) ⟨.all, ?_⟩
  refine At.e rfl rfl rfl rfl .all (R.assign .c) ?_
  refine At.nil ?_
  refine At.tN ?_
  refine At.seq ?_
  refine At.seq ?_
  refine At.plain [(false, 0), (false, 1), (false, 2)] rfl ?_
  refine At.e rfl rfl rfl rfl .all (R.move (.t rfl)) ?_
  first | refine At.e rfl rfl rfl rfl .all (R.lenRd Try.underlying22 (.t rfl) (by (first | exact rS M0 | exact wS M0 | exact rS M1 | exact wS M1 | exact rS M2 | exact wS M2 | exact rS M3 | exact wS M3 | exact rS M4 | exact wS M4 | exact rS M5 | exact wS M5 | exact rS M6 | exact wS M6 | exact rS M7 | exact wS M7 | exact RdIn.nil))) ?_ | refine At.e rfl rfl rfl rfl .all (R.lenSl Try.underlying22 (.t rfl)) ?_
  refine At.e rfl rfl rfl rfl .all (R.move .c) ?_
  refine At.nil ?_
  refine At.tN ?_
  refine At.block ?_
  refine At.loop3 (fun (i : Nat) (x : Itm) (t : Bool) => i ≤ l.length ∧ latF (l.take i) key ver = (if t then some x else none) ∧ (t = false → x = default)) (fun (i : Nat) (x : Itm) (t : Bool) => l.length - i) (fun (i : Nat) (x : Itm) (t : Bool) => [(0, true, u), (1, true, .int .i64 key), (2, true, .int .i64 ver), (6, true, .pointer (some ⟨b1, 0, none⟩)), (8, true, .pointer (some ⟨b2, 0, none⟩)), (9, true, .bool t), (13, true, u), (14, true, .int .i64 l.length), (15, true, .int .i64 i)]) (fun (i : Nat) (x : Itm) (t : Bool) => [.blk b2 (.cells (iK.enc x).toArray 43), .blk b1 (.cells #[.int .i64 0, .int .i64 0, .int .i64 0] 43)]) (fun (i : Nat) (x : Itm) (t : Bool) => []) (0) (default) (false) ⟨Nat.zero_le _, rfl, fun _ => rfl⟩ (.cons rfl (.cons rfl (.cons rfl (.cons rfl (.cons rfl (.cons rfl (.cons rfl (.cons rfl (.cons rfl .nil))))))))) (by ((repeat (first | exact List.Sublist.refl _ | exact List.nil_sublist _ | apply List.Sublist.cons_cons | apply List.Sublist.cons)))) rfl (fun i x t hi => ?_)
  obtain ⟨hi1, hi2, hi3⟩ := hi
  refine At.seq ?_
  refine At.plain [(false, 0)] rfl ?_
  first | refine At.e rfl rfl rfl rfl .all (R.as (R.lss (.t rfl) (.t rfl)) (fun _ => congrArg Value.bool (decide_eq_true (by omega)))) ?_ | refine At.e rfl rfl rfl rfl .all (R.as (R.lss (.t rfl) (.t rfl)) (fun _ => congrArg Value.bool (decide_eq_false (by omega)))) ?_ | refine At.e rfl rfl rfl rfl .all (R.lss (.t rfl) (.t rfl)) ?_
  refine At.nil ?_
  refine At.tN ?_
  refine At.seq ?_
  first | refine At.condD (.t rfl) (fun c1 => ?_) (fun c1 => ?_) | refine At.condN (.t rfl) (fun c1 => ?_) (fun c1 => ?_) | refine At.cond (.t rfl) (fun c1 => ?_) (fun c1 => ?_)
  · skip
    refine At.skip ?_
    refine At.tN ?_
    refine At.seq ?_
    refine At.block ?_
    refine At.seq ?_
    refine At.plain [(false, 0), (false, 1), (false, 2), (false, 3)] rfl ?_
    first | refine At.e rfl rfl rfl rfl .all (R.indexRd Try.underlying22 sz_43 (.t rfl) (by (first | exact rS M0 | exact wS M0 | exact rS M1 | exact wS M1 | exact rS M2 | exact wS M2 | exact rS M3 | exact wS M3 | exact rS M4 | exact wS M4 | exact rS M5 | exact wS M5 | exact rS M6 | exact wS M6 | exact rS M7 | exact wS M7 | exact RdIn.nil)) (.t rfl) (fun hg => (by first | omega | ((simp [-List.length_eq_zero_iff] at hg; omega)) | (simp only [List.length_append, List.length_cons, List.length_nil, List.length_take, List.length_drop]; omega)))) ?_ | refine At.e rfl rfl rfl rfl .all (R.indexSlE Try.underlying22 sz_43 (.t rfl) (.t rfl) (fun hg => by first | omega | (simp [-List.length_eq_zero_iff] at hg; omega))) ?_
    refine At.e rfl rfl rfl rfl .all (R.loadRdAgg (us := iK.enc _) Try.underlying43 rfl sz_43 (.t rfl) (by (first | exact rS M0 | exact wS M0 | exact rS M1 | exact wS M1 | exact rS M2 | exact wS M2 | exact rS M3 | exact wS M3 | exact rS M4 | exact wS M4 | exact rS M5 | exact wS M5 | exact rS M6 | exact wS M6 | exact rS M7 | exact wS M7 | exact RdIn.nil)) (fun hg => (by first | omega | ((simp [-List.length_eq_zero_iff] at hg; omega)) | (simp only [List.length_append, List.length_cons, List.length_nil, List.length_take, List.length_drop]; omega))) (fun hg => by exact Ek.getA (by first | omega | ((simp [-List.length_eq_zero_iff] at hg; omega)) | (simp only [List.length_append, List.length_cons, List.length_nil, List.length_take, List.length_drop]; omega)))) ?_
    refine At.alloc rfl rfl rfl ze_43 (fun b3 hb3 => ⟨.all, ?_⟩)
    first | refine At.stN rfl rfl sz_43 (.t rfl) (.t rfl) rfl rfl rfl (.n U0) ⟨.all, ?_⟩ | refine At.stN rfl rfl sz_43 (.t rfl) (.t rfl) rfl rfl rfl (.n U1) ⟨.all, ?_⟩ | refine At.stN rfl rfl sz_43 (.t rfl) (.t rfl) rfl rfl rfl (.n U2) ⟨.all, ?_⟩ | refine At.stN rfl rfl sz_43 (.t rfl) (.t rfl) rfl rfl rfl (.n U3) ⟨.all, ?_⟩ | refine At.stN rfl rfl sz_43 (.t rfl) (.t rfl) rfl rfl rfl (.n U4) ⟨.all, ?_⟩ | refine At.stN rfl rfl sz_43 (.t rfl) (.t rfl) rfl rfl rfl (.n U5) ⟨.all, ?_⟩ | refine At.stN rfl rfl sz_43 (.t rfl) (.t rfl) rfl rfl rfl (.n U6) ⟨.all, ?_⟩ | refine At.stN rfl rfl sz_43 (.t rfl) (.t rfl) rfl rfl rfl (.n U7) ⟨.all, ?_⟩ | refine At.stN rfl rfl sz_43 (.t rfl) (.t rfl) rfl rfl rfl (.h U0) ⟨.all, ?_⟩ | refine At.stN rfl rfl sz_43 (.t rfl) (.t rfl) rfl rfl rfl (.h U1) ⟨.all, ?_⟩ | refine At.stN rfl rfl sz_43 (.t rfl) (.t rfl) rfl rfl rfl (.h U2) ⟨.all, ?_⟩ | refine At.stN rfl rfl sz_43 (.t rfl) (.t rfl) rfl rfl rfl (.h U3) ⟨.all, ?_⟩
    refine At.nil ?_
    refine At.tN ?_
    refine At.seq ?_
    refine At.plain [(false, 0), (false, 1), (false, 2), (false, 3), (false, 4), (false, 5), (false, 6), (false, 7), (false, 8), (false, 9), (false, 10), (false, 11), (false, 12), (false, 13), (false, 14), (false, 15), (false, 16), (false, 17), (false, 18), (false, 19), (false, 20)] rfl ?_
    first | refine At.e rfl rfl rfl rfl .all (R.fieldAddr fo_43_0 (.t rfl)) ?_ | refine At.e rfl rfl rfl rfl .all (R.fieldRd fo_43_0 (.t rfl) (by (first | exact rS M0 | exact wS M0 | exact rS M1 | exact wS M1 | exact rS M2 | exact wS M2 | exact rS M3 | exact wS M3 | exact rS M4 | exact wS M4 | exact rS M5 | exact wS M5 | exact rS M6 | exact wS M6 | exact rS M7 | exact wS M7 | exact RdIn.nil)) (fun hg => (by first | omega | ((simp [-List.length_eq_zero_iff] at hg; omega)) | (simp only [List.length_append, List.length_cons, List.length_nil, List.length_take, List.length_drop]; omega)))) ?_
    refine At.e rfl rfl rfl rfl .all (R.load Try.underlying3 rfl (.t rfl) (by first | exact cS M0 rfl | exact cS M1 rfl | exact cS M2 rfl | exact cS M3 rfl | exact cS M4 rfl | exact cS M5 rfl | exact cS M6 rfl | exact cS M7 rfl)) ?_
    refine At.e rfl rfl rfl rfl .all (R.move (.t rfl)) ?_
    first | refine At.e rfl rfl rfl rfl .all (R.as (R.eql (.t rfl) (.t rfl)) (fun _ => congrArg Value.bool (decide_eq_true (by first | rfl | omega)))) ?_ | refine At.e rfl rfl rfl rfl .all (R.as (R.eql (.t rfl) (.t rfl)) (fun _ => congrArg Value.bool (decide_eq_false (by omega)))) ?_ | refine At.e rfl rfl rfl rfl .all (R.eql (.t rfl) (.t rfl)) ?_
    refine At.e rfl rfl rfl rfl .all (R.move (.t rfl)) ?_
    first | refine At.eF rfl rfl rfl rfl .all ?_ | refine At.e rfl rfl rfl rfl .all (R.fieldAddr fo_43_1 (by first | exact .t rfl | exact .s rfl | exact .i rfl (by simp_all))) ?_ | refine At.e rfl rfl rfl rfl .all (R.fieldRd fo_43_1 (by first | exact .t rfl | exact .s rfl | exact .i rfl (by simp_all)) (by (first | exact rS M0 | exact wS M0 | exact rS M1 | exact wS M1 | exact rS M2 | exact wS M2 | exact rS M3 | exact wS M3 | exact rS M4 | exact wS M4 | exact rS M5 | exact wS M5 | exact rS M6 | exact wS M6 | exact rS M7 | exact wS M7 | exact RdIn.nil)) (fun hg => (by first | omega | ((simp [-List.length_eq_zero_iff] at hg; omega)) | (simp only [List.length_append, List.length_cons, List.length_nil, List.length_take, List.length_drop]; omega)))) ?_
    first | refine At.eF rfl rfl rfl rfl .all ?_ | refine At.e rfl rfl rfl rfl .all (R.load Try.underlying3 rfl (by first | exact .t rfl | exact .s rfl | exact .i rfl (by simp_all)) (by first | exact cS M0 rfl | exact cS M1 rfl | exact cS M2 rfl | exact cS M3 rfl | exact cS M4 rfl | exact cS M5 rfl | exact cS M6 rfl | exact cS M7 rfl)) ?_
    first | refine At.eF rfl rfl rfl rfl .all ?_ | refine At.e rfl rfl rfl rfl .all (R.move (by first | exact .t rfl | exact .s rfl | exact .i rfl (by simp_all))) ?_
    first | refine At.eF rfl rfl rfl rfl .all ?_ | refine At.e rfl rfl rfl rfl .all (R.leq (by first | exact .t rfl | exact .s rfl | exact .i rfl (by simp_all)) (by first | exact .t rfl | exact .s rfl | exact .i rfl (by simp_all))) ?_
    first | refine At.e rfl rfl rfl rfl .all (R.pickT (.t rfl) (.t rfl)) ?_ | refine At.e rfl rfl rfl rfl .all (R.pickF (.t rfl) .c) ?_ | refine At.e rfl rfl rfl rfl .all (R.pickAnd (.t rfl) rfl (by simp_all)) ?_
    refine At.e rfl rfl rfl rfl .all (R.move (.t rfl)) ?_
    first | refine At.eF rfl rfl rfl rfl .all ?_ | refine At.e rfl rfl rfl rfl .all (R.move (by first | exact .t rfl | exact .s rfl | exact .i rfl (by simp_all))) ?_
    first | refine At.eF rfl rfl rfl rfl .all ?_ | refine At.e rfl rfl rfl rfl .all (R.not (by first | exact .t rfl | exact .s rfl | exact .i rfl (by simp_all))) ?_
    first | refine At.eF rfl rfl rfl rfl .all ?_ | refine At.e rfl rfl rfl rfl .all (R.move (by first | exact .t rfl | exact .s rfl | exact .i rfl (by simp_all))) ?_
    first | refine At.eF rfl rfl rfl rfl .all ?_ | refine At.e rfl rfl rfl rfl .all (R.fieldAddr fo_43_1 (by first | exact .t rfl | exact .s rfl | exact .i rfl (by simp_all))) ?_ | refine At.e rfl rfl rfl rfl .all (R.fieldRd fo_43_1 (by first | exact .t rfl | exact .s rfl | exact .i rfl (by simp_all)) (by (first | exact rS M0 | exact wS M0 | exact rS M1 | exact wS M1 | exact rS M2 | exact wS M2 | exact rS M3 | exact wS M3 | exact rS M4 | exact wS M4 | exact rS M5 | exact wS M5 | exact rS M6 | exact wS M6 | exact rS M7 | exact wS M7 | exact RdIn.nil)) (fun hg => (by first | omega | ((simp [-List.length_eq_zero_iff] at hg; omega)) | (simp only [List.length_append, List.length_cons, List.length_nil, List.length_take, List.length_drop]; omega)))) ?_
    first | refine At.eF rfl rfl rfl rfl .all ?_ | refine At.e rfl rfl rfl rfl .all (R.load Try.underlying3 rfl (by first | exact .t rfl | exact .s rfl | exact .i rfl (by simp_all)) (by first | exact cS M0 rfl | exact cS M1 rfl | exact cS M2 rfl | exact cS M3 rfl | exact cS M4 rfl | exact cS M5 rfl | exact cS M6 rfl | exact cS M7 rfl)) ?_
    first | refine At.eF rfl rfl rfl rfl .all ?_ | refine At.e rfl rfl rfl rfl .all (R.fieldAddr fo_43_1 (by first | exact .t rfl | exact .s rfl | exact .i rfl (by simp_all))) ?_ | refine At.e rfl rfl rfl rfl .all (R.fieldRd fo_43_1 (by first | exact .t rfl | exact .s rfl | exact .i rfl (by simp_all)) (by (first | exact rS M0 | exact wS M0 | exact rS M1 | exact wS M1 | exact rS M2 | exact wS M2 | exact rS M3 | exact wS M3 | exact rS M4 | exact wS M4 | exact rS M5 | exact wS M5 | exact rS M6 | exact wS M6 | exact rS M7 | exact wS M7 | exact RdIn.nil)) (fun hg => (by first | omega | ((simp [-List.length_eq_zero_iff] at hg; omega)) | (simp only [List.length_append, List.length_cons, List.length_nil, List.length_take, List.length_drop]; omega)))) ?_
    first | refine At.eF rfl rfl rfl rfl .all ?_ | refine At.e rfl rfl rfl rfl .all (R.load Try.underlying3 rfl (by first | exact .t rfl | exact .s rfl | exact .i rfl (by simp_all)) (by first | exact cS M0 rfl | exact cS M1 rfl | exact cS M2 rfl | exact cS M3 rfl | exact cS M4 rfl | exact cS M5 rfl | exact cS M6 rfl | exact cS M7 rfl)) ?_
    first | refine At.eF rfl rfl rfl rfl .all ?_ | refine At.e rfl rfl rfl rfl .all (R.geq (by first | exact .t rfl | exact .s rfl | exact .i rfl (by simp_all)) (by first | exact .t rfl | exact .s rfl | exact .i rfl (by simp_all))) ?_
    first | refine At.eF rfl rfl rfl rfl .all ?_ | refine At.e rfl rfl rfl rfl .all (R.pickT (by first | exact .t rfl | exact .s rfl | exact .i rfl (by simp_all)) .c) ?_ | refine At.e rfl rfl rfl rfl .all (R.pickF (by first | exact .t rfl | exact .s rfl | exact .i rfl (by simp_all)) (by first | exact .t rfl | exact .s rfl | exact .i rfl (by simp_all))) ?_ | refine At.e rfl rfl rfl rfl .all (R.pickOr (by first | exact .t rfl | exact .s rfl | exact .i rfl (by simp_all)) rfl (by simp_all)) ?_
    first | refine At.e rfl rfl rfl rfl .all (R.pickT (.t rfl) (.t rfl)) ?_ | refine At.e rfl rfl rfl rfl .all (R.pickF (.t rfl) .c) ?_ | refine At.e rfl rfl rfl rfl .all (R.pickAnd (.t rfl) rfl (by simp_all)) ?_
    refine At.nil ?_
    refine At.tN ?_
    first | refine At.condD (.t rfl) (fun c2 => ?_) (fun c2 => ?_) | refine At.condN (.t rfl) (fun c2 => ?_) (fun c2 => ?_) | refine At.cond (.t rfl) (fun c2 => ?_) (fun c2 => ?_)
    · skip
      refine At.plain [(false, 0), (false, 1), (false, 2)] rfl ?_
      refine At.e rfl rfl rfl rfl .all (R.loadAgg (vs := [_, _, _]) Try.underlying43 rfl sz_43 (.t rfl) (by first | exact csS M0 ⟨rfl, rfl, rfl, trivial⟩ | exact csS M1 ⟨rfl, rfl, rfl, trivial⟩ | exact csS M2 ⟨rfl, rfl, rfl, trivial⟩ | exact csS M3 ⟨rfl, rfl, rfl, trivial⟩ | exact csS M4 ⟨rfl, rfl, rfl, trivial⟩ | exact csS M5 ⟨rfl, rfl, rfl, trivial⟩ | exact csS M6 ⟨rfl, rfl, rfl, trivial⟩ | exact csS M7 ⟨rfl, rfl, rfl, trivial⟩)) ?_
      first | refine At.stN rfl rfl sz_43 (.t rfl) (.t rfl) rfl rfl rfl (.n U0) ⟨.all, ?_⟩ | refine At.stN rfl rfl sz_43 (.t rfl) (.t rfl) rfl rfl rfl (.n U1) ⟨.all, ?_⟩ | refine At.stN rfl rfl sz_43 (.t rfl) (.t rfl) rfl rfl rfl (.n U2) ⟨.all, ?_⟩ | refine At.stN rfl rfl sz_43 (.t rfl) (.t rfl) rfl rfl rfl (.n U3) ⟨.all, ?_⟩ | refine At.stN rfl rfl sz_43 (.t rfl) (.t rfl) rfl rfl rfl (.n U4) ⟨.all, ?_⟩ | refine At.stN rfl rfl sz_43 (.t rfl) (.t rfl) rfl rfl rfl (.n U5) ⟨.all, ?_⟩ | refine At.stN rfl rfl sz_43 (.t rfl) (.t rfl) rfl rfl rfl (.n U6) ⟨.all, ?_⟩ | refine At.stN rfl rfl sz_43 (.t rfl) (.t rfl) rfl rfl rfl (.n U7) ⟨.all, ?_⟩ | refine At.stN rfl rfl sz_43 (.t rfl) (.t rfl) rfl rfl rfl (.h U0) ⟨.all, ?_⟩ | refine At.stN rfl rfl sz_43 (.t rfl) (.t rfl) rfl rfl rfl (.h U1) ⟨.all, ?_⟩ | refine At.stN rfl rfl sz_43 (.t rfl) (.t rfl) rfl rfl rfl (.h U2) ⟨.all, ?_⟩ | refine At.stN rfl rfl sz_43 (.t rfl) (.t rfl) rfl rfl rfl (.h U3) ⟨.all, ?_⟩
      refine At.e rfl rfl rfl rfl .all (R.assign .c) ?_
      refine At.nil ?_
      refine At.bN ?_
      refine At.tN ?_
      refine At.plain [(false, 0), (false, 1)] rfl ?_
      first | refine At.e rfl rfl rfl rfl .all (R.addI (.t rfl) .c (fun hg => by first | omega | (simp [-List.length_eq_zero_iff] at hg; omega))) ?_ | refine At.e rfl rfl rfl rfl .all (R.add (.t rfl) .c) ?_
      refine At.e rfl rfl rfl rfl .all (R.move (.t rfl)) ?_
      refine At.nil ?_
      refine At.tN ?_
      exact At.again3 (i + 1) (gE l i) (true) ⟨by omega, latG_yes (by omega) hi2 (by simpa using c2), fun h => by cases h⟩ (by omega) (.cons rfl (.cons rfl (.cons rfl (.cons rfl (.cons rfl (.cons rfl (.cons rfl (.cons rfl (.cons rfl .nil))))))))) (by ((repeat (first | exact List.Sublist.refl _ | exact List.nil_sublist _ | apply List.Sublist.cons_cons | apply List.Sublist.cons)))) rfl
    · skip
      refine At.skip ?_
      refine At.bN ?_
      refine At.tN ?_
      refine At.plain [(false, 0), (false, 1)] rfl ?_
      first | refine At.e rfl rfl rfl rfl .all (R.addI (.t rfl) .c (fun hg => by first | omega | (simp [-List.length_eq_zero_iff] at hg; omega))) ?_ | refine At.e rfl rfl rfl rfl .all (R.add (.t rfl) .c) ?_
      refine At.e rfl rfl rfl rfl .all (R.move (.t rfl)) ?_
      refine At.nil ?_
      refine At.tN ?_
      exact At.again3 (i + 1) (x) (t) ⟨by omega, latG_no (by omega) hi2 (by simpa using c2), hi3⟩ (by omega) (.cons rfl (.cons rfl (.cons rfl (.cons rfl (.cons rfl (.cons rfl (.cons rfl (.cons rfl (.cons rfl .nil))))))))) (by ((repeat (first | exact List.Sublist.refl _ | exact List.nil_sublist _ | apply List.Sublist.cons_cons | apply List.Sublist.cons)))) rfl
  · have hfin : latF l key ver = (if t then some x else none) := (by rw [← hi2, List.take_of_length_le (by omega)])
    refine At.exit ?_
    refine At.tE ?_
    refine At.tE ?_
    refine At.bE ?_
    refine At.tN ?_
    refine At.seq ?_
    refine At.plain [(false, 0), (false, 1), (false, 2), (false, 3)] rfl ?_
    refine At.e rfl rfl rfl rfl .all (R.loadAgg (vs := [_, _, _]) Try.underlying43 rfl sz_43 (.t rfl) (by first | exact csS M0 ⟨rfl, rfl, rfl, trivial⟩ | exact csS M1 ⟨rfl, rfl, rfl, trivial⟩ | exact csS M2 ⟨rfl, rfl, rfl, trivial⟩ | exact csS M3 ⟨rfl, rfl, rfl, trivial⟩ | exact csS M4 ⟨rfl, rfl, rfl, trivial⟩ | exact csS M5 ⟨rfl, rfl, rfl, trivial⟩ | exact csS M6 ⟨rfl, rfl, rfl, trivial⟩ | exact csS M7 ⟨rfl, rfl, rfl, trivial⟩)) ?_
    refine At.e rfl rfl rfl rfl .all (R.move (.t rfl)) ?_
    first | refine At.stN rfl rfl sz_43 (.t rfl) (.t rfl) rfl rfl rfl (.n U0) ⟨.all, ?_⟩ | refine At.stN rfl rfl sz_43 (.t rfl) (.t rfl) rfl rfl rfl (.n U1) ⟨.all, ?_⟩ | refine At.stN rfl rfl sz_43 (.t rfl) (.t rfl) rfl rfl rfl (.n U2) ⟨.all, ?_⟩ | refine At.stN rfl rfl sz_43 (.t rfl) (.t rfl) rfl rfl rfl (.n U3) ⟨.all, ?_⟩ | refine At.stN rfl rfl sz_43 (.t rfl) (.t rfl) rfl rfl rfl (.n U4) ⟨.all, ?_⟩ | refine At.stN rfl rfl sz_43 (.t rfl) (.t rfl) rfl rfl rfl (.n U5) ⟨.all, ?_⟩ | refine At.stN rfl rfl sz_43 (.t rfl) (.t rfl) rfl rfl rfl (.n U6) ⟨.all, ?_⟩ | refine At.stN rfl rfl sz_43 (.t rfl) (.t rfl) rfl rfl rfl (.n U7) ⟨.all, ?_⟩ | refine At.stN rfl rfl sz_43 (.t rfl) (.t rfl) rfl rfl rfl (.h U0) ⟨.all, ?_⟩ | refine At.stN rfl rfl sz_43 (.t rfl) (.t rfl) rfl rfl rfl (.h U1) ⟨.all, ?_⟩ | refine At.stN rfl rfl sz_43 (.t rfl) (.t rfl) rfl rfl rfl (.h U2) ⟨.all, ?_⟩ | refine At.stN rfl rfl sz_43 (.t rfl) (.t rfl) rfl rfl rfl (.h U3) ⟨.all, ?_⟩
    refine At.e rfl rfl rfl rfl .all (R.assign (.t rfl)) ?_
    refine At.nil ?_
    refine At.tN ?_
    refine At.ret ?_
    exact At.final2 rfl (.a (vs := [_, _, _]) Try.underlying43 rfl sz_43 rfl (by first | exact csS M0 ⟨rfl, rfl, rfl, trivial⟩ | exact csS M1 ⟨rfl, rfl, rfl, trivial⟩ | exact csS M2 ⟨rfl, rfl, rfl, trivial⟩ | exact csS M3 ⟨rfl, rfl, rfl, trivial⟩ | exact csS M4 ⟨rfl, rfl, rfl, trivial⟩ | exact csS M5 ⟨rfl, rfl, rfl, trivial⟩ | exact csS M6 ⟨rfl, rfl, rfl, trivial⟩ | exact csS M7 ⟨rfl, rfl, rfl, trivial⟩)) (.t rfl) (List.nil_sublist _) (⟨latV_fin hfin hi3, rfl, rfl⟩)

end Go.Proofs.Ytejpanipdjknjaa
