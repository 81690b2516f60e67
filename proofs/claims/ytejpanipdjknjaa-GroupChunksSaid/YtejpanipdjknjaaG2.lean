/- G2 -/
import Derived.Test.YtejpanipdjknjaaK1
import Derived.Test.YtejpanipdjknjaaEngF
namespace Go.Proofs.Ytejpanipdjknjaa
open Go Go.RowKit
set_option maxRecDepth 10000
set_option linter.unusedVariables false
theorem sz_22 : (Try.prog.info? 22).map (·.size) = some 1 := by kernel_rfl


/-- A group's least key. -/
def minF (least : Int) (gs : List (Value × List Itm)) (i : Nat) : Int := if i = 0 then least else if (gE gs (i : Int)).2.length = 0 then 0 else (gE (gE gs (i : Int)).2 0).key
def minsF (least : Int) (gs : List (Value × List Itm)) : Nat → List Int
  | 0 => []
  | i + 1 => minsF least gs i ++ [minF least gs i]
theorem minF_0 {least : Int} {gs : List (Value × List Itm)} {i : Nat} (h : i = 0) : least = minF least gs i := by rw [minF, if_pos h]
theorem minF_k {least : Int} {gs : List (Value × List Itm)} {i : Nat} (h : i ≠ 0) (h' : (gE gs (i : Int)).2.length ≠ 0) : (gE (gE gs (i : Int)).2 0).key = minF least gs i := by rw [minF, if_neg h, if_neg h']
theorem minF_n {least : Int} {gs : List (Value × List Itm)} {i : Nat} (h : i ≠ 0) (h' : (gE gs (i : Int)).2.length = 0) : (0 : Int) = minF least gs i := by rw [minF, if_neg h, if_pos h']
theorem c_rMins {V : Value} {gs : List (Value × List Itm)} {least : Int} (hL : gs.length ≤ 1000) : Fn Try.prog 21 [.int .i64 least, V] (nest iK V gs) [] (IsR zK 3 (minsF least gs gs.length)) := by
  refine Fn.enter Try.func21 (by kernel_rfl) rfl (n := 35) rfl rfl (fun w => ?_)
  have hG : ∀ x ∈ gs, rdE iK x.1 x.2 ∈ nest iK V gs := fun x hx => .tail _ (List.mem_map.2 ⟨x, hx, rfl⟩)
  refine At.seq ?_
  refine At.plain [(false, 0)] rfl ?_
  refine At.e rfl rfl rfl rfl .all (R.assign .c) ?_
  refine At.nil ?_
  refine At.tN ?_
  refine At.seq ?_
  refine At.plain [(false, 0)] rfl ?_
  refine At.e rfl rfl rfl rfl .all (R.assign .c) ?_
  refine At.nil ?_
  refine At.tN ?_
  refine At.seq ?_
  refine At.seq ?_
  refine At.plain [(false, 0)] rfl ?_
  refine At.e rfl rfl rfl rfl .all (R.assign .c) ?_
  refine At.nil ?_
  refine At.tN ?_
  refine At.block ?_
  refine At.nilRow zK 3 ?_
  refine At.loop3 (fun (i : Nat) (out : List Int) (v : Value) => i ≤ gs.length ∧ out = minsF least gs i ∧ out.length = i) (fun (i : Nat) (out : List Int) (v : Value) => gs.length - i) (fun (i : Nat) (out : List Int) (v : Value) => [(0, true, .int .i64 least), (1, true, V), (5, true, v), (6, true, .int .i64 i)]) (fun (i : Nat) (out : List Int) (v : Value) => [rowE zK 3 v out]) (fun (i : Nat) (out : List Int) (v : Value) => []) (0) ([]) (.slice none 0 0) ⟨Nat.zero_le _, rfl, rfl⟩ (.cons rfl (.cons rfl (.cons rfl (.cons rfl .nil)))) (by ((repeat (first | exact List.Sublist.refl _ | exact List.nil_sublist _ | apply List.Sublist.cons_cons | apply List.Sublist.cons)))) rfl (fun i out v hi => ?_)
  obtain ⟨hi1, hi2, hi3⟩ := hi
  refine At.seq ?_
  refine At.seq ?_
  refine At.plain [(false, 0), (false, 1), (false, 2), (false, 3)] rfl ?_
  refine At.e rfl rfl rfl rfl .all (R.move (.t rfl)) ?_
  refine At.e rfl rfl rfl rfl .all (R.move (.t rfl)) ?_
  refine At.e rfl rfl rfl rfl .all (R.lenRd Try.underlying29 (.t rfl) (by exact rS M0)) ?_
  refine At.e rfl rfl rfl rfl .all (R.lss (.t rfl) (.t rfl)) ?_
  refine At.nil ?_
  refine At.tN ?_
  refine At.condD (.t rfl) (fun c1 => ?_) (fun c1 => ?_)
  · skip
    refine At.skip ?_
    refine At.tN ?_
    refine At.seq ?_
    refine At.block ?_
    refine At.seq ?_
    refine At.plain [(false, 0)] rfl ?_
    refine At.e rfl rfl rfl rfl .all (R.assign .c) ?_
    refine At.nil ?_
    refine At.tN ?_
    refine At.seq ?_
    refine At.seq ?_
    refine At.plain [(false, 0), (false, 1)] rfl ?_
    refine At.e rfl rfl rfl rfl .all (R.move (.t rfl)) ?_
    refine At.e rfl rfl rfl rfl .all (R.eql (.t rfl) .c) ?_
    refine At.nil ?_
    refine At.tN ?_
    refine At.cut1 (fun (m : Int) => m = minF least gs i) (fun (m : Int) => [(0, true, .int .i64 least), (1, true, V), (5, true, v), (6, true, .int .i64 i), (7, true, .int .i64 m)]) (fun (m : Int) => [rowE zK 3 v out]) (fun (m : Int) => []) ?_ (fun m hi => ?_)
    · skip
      refine At.condD (.t rfl) (fun c2 => ?_) (fun c2 => ?_)
      · skip
        refine At.plain [(false, 0), (false, 1)] rfl ?_
        refine At.e rfl rfl rfl rfl .all (R.move (.t rfl)) ?_
        refine At.e rfl rfl rfl rfl .all (R.assign (.t rfl)) ?_
        refine At.nil ?_
        refine At.tN ?_
        exact At.mid1 (least) (minF_0 (by omega)) (.cons rfl (.cons rfl (.cons rfl (.cons rfl (.cons rfl .nil))))) (by ((repeat (first | exact List.Sublist.refl _ | exact List.nil_sublist _ | apply List.Sublist.cons_cons | apply List.Sublist.cons)))) rfl
      · skip
        refine At.seq ?_
        refine At.plain [(false, 0), (false, 1), (false, 2), (false, 3), (false, 4), (false, 5)] rfl ?_
        refine At.e rfl rfl rfl rfl .all (R.move (.t rfl)) ?_
        refine At.e rfl rfl rfl rfl .all (R.move (.t rfl)) ?_
        refine At.e rfl rfl rfl rfl .all (R.indexRd Try.underlying29 sz_22 (.t rfl) (by exact rS M0) (.t rfl) (fun hg => (by omega))) ?_
        refine At.e rfl rfl rfl rfl .all (R.loadRd Try.underlying22 rfl (.t rfl) (by exact rS M0) (fun hg => by exact nestGet (by omega))) ?_
        refine At.e rfl rfl rfl rfl .all (R.lenRd Try.underlying22 (.t rfl) (by exact nestS hG (by omega))) ?_
        refine At.e rfl rfl rfl rfl .all (R.gtr (.t rfl) .c) ?_
        refine At.nil ?_
        refine At.tN ?_
        refine At.condD (.t rfl) (fun c3 => ?_) (fun c3 => ?_)
        · skip
          refine At.plain [(false, 0), (false, 1), (false, 2), (false, 3), (false, 4), (false, 5), (false, 6), (false, 7)] rfl ?_
          refine At.e rfl rfl rfl rfl .all (R.move (.t rfl)) ?_
          refine At.e rfl rfl rfl rfl .all (R.move (.t rfl)) ?_
          refine At.e rfl rfl rfl rfl .all (R.indexRd Try.underlying29 sz_22 (.t rfl) (by exact rS M0) (.t rfl) (fun hg => (by omega))) ?_
          refine At.e rfl rfl rfl rfl .all (R.loadRd Try.underlying22 rfl (.t rfl) (by exact rS M0) (fun hg => by exact nestGet (by omega))) ?_
          refine At.e rfl rfl rfl rfl .all (R.indexRd Try.underlying22 sz_43 (.t rfl) (by exact nestS hG (by omega)) .c (fun hg => (by omega))) ?_
          refine At.e rfl rfl rfl rfl .all (R.fieldRd fo_43_0 (.t rfl) (by exact nestS hG (by omega)) (fun hg => (by omega))) ?_
          refine At.e rfl rfl rfl rfl .all (R.loadRd Try.underlying3 rfl (.t rfl) (by exact nestS hG (by omega)) (fun hg => by exact Ek.getN rfl (by omega))) ?_
          refine At.e rfl rfl rfl rfl .all (R.assign (.t rfl)) ?_
          refine At.nil ?_
          refine At.tN ?_
          exact At.mid1 ((gE (gE gs i).2 0).key) (minF_k (by omega) (by omega)) (.cons rfl (.cons rfl (.cons rfl (.cons rfl (.cons rfl .nil))))) (by ((repeat (first | exact List.Sublist.refl _ | exact List.nil_sublist _ | apply List.Sublist.cons_cons | apply List.Sublist.cons)))) rfl
        · skip
          refine At.skip ?_
          refine At.tN ?_
          exact At.mid1 (0) (minF_n (by omega) (by omega)) (.cons rfl (.cons rfl (.cons rfl (.cons rfl (.cons rfl .nil))))) (by ((repeat (first | exact List.Sublist.refl _ | exact List.nil_sublist _ | apply List.Sublist.cons_cons | apply List.Sublist.cons)))) rfl
    · have hm := hi
      refine At.plain [(false, 0), (false, 1), (false, 2), (false, 3), (false, 4)] rfl ?_
      refine At.e rfl rfl rfl rfl .all (R.move (.t rfl)) ?_
      refine At.e rfl rfl rfl rfl .all (R.move (.t rfl)) ?_
      refine At.lit (k := zK) rfl rfl rfl Try.underlying32 et_3 (.cons (.t rfl) .nil) (.cons rfl .nil) rfl rfl rfl (fun v1 => ⟨.all, ?_⟩)
      refine At.app (k := zK) rfl rfl rfl Try.underlying32 et_3 (.t rfl) (.t rfl) (fun _ => by (exact U1)) (by exact wN M0) (by (simp <;> omega)) (fun v2 => ⟨.all, ?_⟩)
      refine At.e rfl rfl rfl rfl .all (R.assign (.t rfl)) ?_
      refine At.nil ?_
      refine At.bN ?_
      refine At.tN ?_
      refine At.plain [(false, 0), (false, 1), (false, 2)] rfl ?_
      refine At.e rfl rfl rfl rfl .all (R.move (.t rfl)) ?_
      refine At.e rfl rfl rfl rfl .all (R.addI (.t rfl) .c (fun hg => by omega)) ?_
      refine At.e rfl rfl rfl rfl .all (R.assign (.t rfl)) ?_
      refine At.nil ?_
      refine At.tN ?_
      exact At.again3 (i + 1) (out ++ [m]) (v2) ⟨by omega, by rw [hi2, hm]; rfl, by simp; omega⟩ (by omega) (.cons rfl (.cons rfl (.cons rfl (.cons rfl .nil)))) (by ((repeat (first | exact List.Sublist.refl _ | exact List.nil_sublist _ | apply List.Sublist.cons_cons | apply List.Sublist.cons)))) rfl
  · skip
    refine At.exit ?_
    refine At.tE ?_
    refine At.tE ?_
    refine At.bE ?_
    refine At.tN ?_
    refine At.seq ?_
    refine At.plain [(false, 0), (false, 1)] rfl ?_
    refine At.e rfl rfl rfl rfl .all (R.move (.t rfl)) ?_
    refine At.e rfl rfl rfl rfl .all (R.assign (.t rfl)) ?_
    refine At.nil ?_
    refine At.tN ?_
    refine At.ret ?_
    exact At.final (N' := [rowE zK 3 v out]) rfl (.t rfl) (by ((repeat (first | exact List.Sublist.refl _ | exact List.nil_sublist _ | apply List.Sublist.cons_cons | apply List.Sublist.cons)))) (⟨by rw [show i = gs.length from by omega] at hi2; rw [hi2], rfl⟩)

theorem c_Mins {V : Value} {gs : List (Value × List Itm)} {least : Int} (hL : gs.length ≤ 1000) : Fn Try.prog 20 [.int .i64 least, V] (nest iK V gs) [] (IsR zK 3 (minsF least gs gs.length)) := by
  refine Fn.enter Try.func20 (by kernel_rfl) rfl (n := 38) rfl rfl (fun w => ?_)
  have hG : ∀ x ∈ gs, rdE iK x.1 x.2 ∈ nest iK V gs := fun x hx => .tail _ (List.mem_map.2 ⟨x, hx, rfl⟩)
  refine At.seq ?_
  refine At.plain [(false, 0)] rfl ?_
  refine At.e rfl rfl rfl rfl .all (R.assign .c) ?_
  refine At.nil ?_
  refine At.tN ?_
  refine At.seq ?_
  refine At.plain [(false, 0)] rfl ?_
  refine At.e rfl rfl rfl rfl .all (R.assign .c) ?_
  refine At.nil ?_
  refine At.tN ?_
  refine At.seq ?_
  refine At.seq ?_
  refine At.plain [(false, 0), (false, 1), (false, 2)] rfl ?_
  refine At.e rfl rfl rfl rfl .all (R.move (.t rfl)) ?_
  refine At.e rfl rfl rfl rfl .all (R.lenRd Try.underlying29 (.t rfl) (by exact rS M0)) ?_
  refine At.e rfl rfl rfl rfl .all (R.move .c) ?_
  refine At.nil ?_
  refine At.tN ?_
  refine At.block ?_
  refine At.nilRow zK 3 ?_
  refine At.loop3 (fun (i : Nat) (out : List Int) (v : Value) => i ≤ gs.length ∧ out = minsF least gs i ∧ out.length = i) (fun (i : Nat) (out : List Int) (v : Value) => gs.length - i) (fun (i : Nat) (out : List Int) (v : Value) => [(0, true, .int .i64 least), (5, true, v), (8, true, V), (9, true, .int .i64 gs.length), (10, true, .int .i64 i)]) (fun (i : Nat) (out : List Int) (v : Value) => [rowE zK 3 v out]) (fun (i : Nat) (out : List Int) (v : Value) => []) (0) ([]) (.slice none 0 0) ⟨Nat.zero_le _, rfl, rfl⟩ (.cons rfl (.cons rfl (.cons rfl (.cons rfl (.cons rfl .nil))))) (by ((repeat (first | exact List.Sublist.refl _ | exact List.nil_sublist _ | apply List.Sublist.cons_cons | apply List.Sublist.cons)))) rfl (fun i out v hi => ?_)
  obtain ⟨hi1, hi2, hi3⟩ := hi
  refine At.seq ?_
  refine At.plain [(false, 0)] rfl ?_
  refine At.e rfl rfl rfl rfl .all (R.lss (.t rfl) (.t rfl)) ?_
  refine At.nil ?_
  refine At.tN ?_
  refine At.seq ?_
  refine At.condD (.t rfl) (fun c1 => ?_) (fun c1 => ?_)
  · skip
    refine At.skip ?_
    refine At.tN ?_
    refine At.seq ?_
    refine At.block ?_
    refine At.seq ?_
    refine At.plain [(false, 0), (false, 1), (false, 2), (false, 3), (false, 4)] rfl ?_
    refine At.e rfl rfl rfl rfl .all (R.move (.t rfl)) ?_
    refine At.e rfl rfl rfl rfl .all (R.indexRd Try.underlying29 sz_22 (.t rfl) (by exact rS M0) (.t rfl) (fun hg => (by omega))) ?_
    refine At.e rfl rfl rfl rfl .all (R.loadRd Try.underlying22 rfl (.t rfl) (by exact rS M0) (fun hg => by exact nestGet (by omega))) ?_
    refine At.e rfl rfl rfl rfl .all (R.assign (.t rfl)) ?_
    refine At.e rfl rfl rfl rfl .all (R.assign (.t rfl)) ?_
    refine At.nil ?_
    refine At.tN ?_
    refine At.block ?_
    refine At.seq ?_
    refine At.plain [(false, 0), (false, 1), (false, 2)] rfl ?_
    refine At.e rfl rfl rfl rfl .all (R.move (.t rfl)) ?_
    refine At.e rfl rfl rfl rfl .all (R.eql (.t rfl) .c) ?_
    refine At.e rfl rfl rfl rfl .all (R.assign (.t rfl)) ?_
    refine At.nil ?_
    refine At.tN ?_
    refine At.condD (.t rfl) (fun c2 => ?_) (fun c2 => ?_)
    · skip
      refine At.plain [(false, 0), (false, 1), (false, 2), (false, 3), (false, 4)] rfl ?_
      refine At.e rfl rfl rfl rfl .all (R.move (.t rfl)) ?_
      refine At.e rfl rfl rfl rfl .all (R.move (.t rfl)) ?_
      refine At.lit (k := zK) rfl rfl rfl Try.underlying32 et_3 (.cons (.t rfl) .nil) (.cons rfl .nil) rfl rfl rfl (fun v1 => ⟨.all, ?_⟩)
      refine At.app (k := zK) rfl rfl rfl Try.underlying32 et_3 (.t rfl) (.t rfl) (fun _ => by (exact U1)) (by exact wN M0) (by (simp <;> omega)) (fun v2 => ⟨.all, ?_⟩)
      refine At.e rfl rfl rfl rfl .all (R.assign (.t rfl)) ?_
      refine At.nil ?_
      refine At.bN ?_
      refine At.bN ?_
      refine At.tN ?_
      refine At.plain [(false, 0), (false, 1)] rfl ?_
      refine At.e rfl rfl rfl rfl .all (R.addI (.t rfl) .c (fun hg => by omega)) ?_
      refine At.e rfl rfl rfl rfl .all (R.move (.t rfl)) ?_
      refine At.nil ?_
      refine At.tN ?_
      exact At.again3 (i + 1) (out ++ [least]) (v2) ⟨by omega, by rw [hi2]; exact congrArg (fun z => minsF least gs i ++ [z]) (minF_0 (least := least) (gs := gs) (i := i) (by omega)), by simp; omega⟩ (by omega) (.cons rfl (.cons rfl (.cons rfl (.cons rfl (.cons rfl .nil))))) (by ((repeat (first | exact List.Sublist.refl _ | exact List.nil_sublist _ | apply List.Sublist.cons_cons | apply List.Sublist.cons)))) rfl
    · skip
      refine At.seq ?_
      refine At.plain [(false, 0), (false, 1), (false, 2), (false, 3)] rfl ?_
      refine At.e rfl rfl rfl rfl .all (R.move (.t rfl)) ?_
      refine At.e rfl rfl rfl rfl .all (R.lenRd Try.underlying22 (.t rfl) (by exact nestS hG (by omega))) ?_
      refine At.e rfl rfl rfl rfl .all (R.eql (.t rfl) .c) ?_
      refine At.e rfl rfl rfl rfl .all (R.assign (.t rfl)) ?_
      refine At.nil ?_
      refine At.tN ?_
      refine At.condD (.t rfl) (fun c3 => ?_) (fun c3 => ?_)
      · skip
        refine At.plain [(false, 0), (false, 1), (false, 2), (false, 3)] rfl ?_
        refine At.e rfl rfl rfl rfl .all (R.move (.t rfl)) ?_
        refine At.lit (k := zK) rfl rfl rfl Try.underlying32 et_3 (.cons .c .nil) (.cons rfl .nil) rfl rfl rfl (fun v3 => ⟨.all, ?_⟩)
        refine At.app (k := zK) rfl rfl rfl Try.underlying32 et_3 (.t rfl) (.t rfl) (fun _ => by (exact U1)) (by exact wN M0) (by (simp <;> omega)) (fun v4 => ⟨.all, ?_⟩)
        refine At.e rfl rfl rfl rfl .all (R.assign (.t rfl)) ?_
        refine At.nil ?_
        refine At.bN ?_
        refine At.bN ?_
        refine At.tN ?_
        refine At.plain [(false, 0), (false, 1)] rfl ?_
        refine At.e rfl rfl rfl rfl .all (R.addI (.t rfl) .c (fun hg => by omega)) ?_
        refine At.e rfl rfl rfl rfl .all (R.move (.t rfl)) ?_
        refine At.nil ?_
        refine At.tN ?_
        exact At.again3 (i + 1) (out ++ [0]) (v4) ⟨by omega, by rw [hi2, minF_n (least := least) (gs := gs) (i := i) (by omega) (by omega)]; rfl, by simp; omega⟩ (by omega) (.cons rfl (.cons rfl (.cons rfl (.cons rfl (.cons rfl .nil))))) (by ((repeat (first | exact List.Sublist.refl _ | exact List.nil_sublist _ | apply List.Sublist.cons_cons | apply List.Sublist.cons)))) rfl
      · skip
        refine At.plain [(false, 0), (false, 1), (false, 2), (false, 3), (false, 4), (false, 5), (false, 6), (false, 7)] rfl ?_
        refine At.e rfl rfl rfl rfl .all (R.move (.t rfl)) ?_
        refine At.e rfl rfl rfl rfl .all (R.move (.t rfl)) ?_
        refine At.e rfl rfl rfl rfl .all (R.indexRd Try.underlying22 sz_43 (.t rfl) (by exact nestS hG (by omega)) .c (fun hg => (by omega))) ?_
        refine At.e rfl rfl rfl rfl .all (R.fieldRd fo_43_0 (.t rfl) (by exact nestS hG (by omega)) (fun hg => (by omega))) ?_
        refine At.e rfl rfl rfl rfl .all (R.loadRd Try.underlying3 rfl (.t rfl) (by exact nestS hG (by omega)) (fun hg => by exact Ek.getN rfl (by omega))) ?_
        refine At.lit (k := zK) rfl rfl rfl Try.underlying32 et_3 (.cons (.t rfl) .nil) (.cons rfl .nil) rfl rfl rfl (fun v5 => ⟨.all, ?_⟩)
        refine At.app (k := zK) rfl rfl rfl Try.underlying32 et_3 (.t rfl) (.t rfl) (fun _ => by (exact U1)) (by exact wN M0) (by (simp <;> omega)) (fun v6 => ⟨.all, ?_⟩)
        refine At.e rfl rfl rfl rfl .all (R.assign (.t rfl)) ?_
        refine At.nil ?_
        refine At.bN ?_
        refine At.bN ?_
        refine At.tN ?_
        refine At.plain [(false, 0), (false, 1)] rfl ?_
        refine At.e rfl rfl rfl rfl .all (R.addI (.t rfl) .c (fun hg => by omega)) ?_
        refine At.e rfl rfl rfl rfl .all (R.move (.t rfl)) ?_
        refine At.nil ?_
        refine At.tN ?_
        exact At.again3 (i + 1) (out ++ [(gE (gE gs i).2 0).key]) (v6) ⟨by omega, by rw [hi2, minF_k (least := least) (gs := gs) (i := i) (by omega) (by omega)]; rfl, by simp; omega⟩ (by omega) (.cons rfl (.cons rfl (.cons rfl (.cons rfl (.cons rfl .nil))))) (by ((repeat (first | exact List.Sublist.refl _ | exact List.nil_sublist _ | apply List.Sublist.cons_cons | apply List.Sublist.cons)))) rfl
  · skip
    refine At.exit ?_
    refine At.tE ?_
    refine At.tE ?_
    refine At.bE ?_
    refine At.tN ?_
    refine At.seq ?_
    refine At.plain [(false, 0), (false, 1)] rfl ?_
    refine At.e rfl rfl rfl rfl .all (R.move (.t rfl)) ?_
    refine At.e rfl rfl rfl rfl .all (R.assign (.t rfl)) ?_
    refine At.nil ?_
    refine At.tN ?_
    refine At.ret ?_
    exact At.final (N' := [rowE zK 3 v out]) rfl (.t rfl) (by ((repeat (first | exact List.Sublist.refl _ | exact List.nil_sublist _ | apply List.Sublist.cons_cons | apply List.Sublist.cons)))) (⟨by rw [show i = gs.length from by omega] at hi2; rw [hi2], rfl⟩)

end Go.Proofs.Ytejpanipdjknjaa
