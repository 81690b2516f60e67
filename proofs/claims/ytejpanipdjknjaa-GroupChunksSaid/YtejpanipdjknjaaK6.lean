/- K6 -/
import Derived.Test.YtejpanipdjknjaaK5
namespace Go.Proofs.Ytejpanipdjknjaa
open Go Go.RowKit
set_option maxRecDepth 10000
set_option linter.unusedVariables false



/-- Is it the last one of its key? -/
def lastB (s : List Itm) (i : Nat) : Bool := decide ((i : Int) + 1 = (s.length : Int)) || !decide ((gE s ((i : Int) + 1)).key = (gE s (i : Int)).key)
theorem lastB_lt {s : List Itm} {i : Nat} (hi : i < s.length) (h : lastB s i = false) : i + 1 < s.length := by
  simp only [lastB, Bool.or_eq_false_iff, decide_eq_false_iff_not] at h
  omega
def keepB (s : List Itm) (vs : List Int) (i : Nat) : Bool := vs.foldl (fun b v => b || (decide ((gE s (i : Int)).ver ≤ v) && (lastB s i || decide (v < (gE s ((i : Int) + 1)).ver)))) (lastB s i)
theorem keepB_step {s : List Itm} {vs : List Int} {i k : Nat} {b : Bool} (hk : k < vs.length) (h : b = keepB s (vs.take k) i) :
    (b || (decide ((gE s (i : Int)).ver ≤ gE vs (k : Int)) && (lastB s i || decide (gE vs (k : Int) < (gE s ((i : Int) + 1)).ver)))) = keepB s (vs.take (k + 1)) i := by
  have e : vs.take (k + 1) = vs.take k ++ [gE vs (k : Int)] := by rw [List.take_succ_eq_append_getElem hk]; simp [gE, hk]
  rw [e, h]; unfold keepB; rw [List.foldl_append]; rfl
/-- What the document keeps. -/
def keepF (s : List Itm) (vs : List Int) : Nat → List Itm
  | 0 => []
  | i + 1 => if keepB s vs i then keepF s vs i ++ [gE s (i : Int)] else keepF s vs i
theorem keepF_yes {s : List Itm} {vs : List Int} {i : Nat} (h : keepB s vs i = true) : keepF s vs (i + 1) = keepF s vs i ++ [gE s (i : Int)] := by rw [keepF, if_pos h]
theorem keepF_no {s : List Itm} {vs : List Int} {i : Nat} (h : keepB s vs i = false) : keepF s vs (i + 1) = keepF s vs i := by rw [keepF, if_neg (by rw [h]; simp)]
theorem c_rKeep {u vv : Value} {l : List Itm} {vs : List Int} (hL : l.length ≤ 1000) : Fn Try.prog 26 [u, vv] [rdE iK u l, rdE zK vv vs] [] (IsR iK 43 (keepF (sortF l) vs (sortF l).length)) := by
  refine Fn.enter Try.func26 (by kernel_rfl) rfl (n := 83) rfl rfl (fun w => ?_)
  refine At.len (v := u) (by (exact rS M0)) (fun hl1 => ?_)
  refine At.len (v := vv) (by (exact rS M1)) (fun hl2 => ?_)
  have hs := sortF_length l
  refine At.seq ?_
  refine At.plain [(false, 0)] rfl ?_
  refine At.e rfl rfl rfl rfl .all (R.assign .c) ?_
  refine At.nil ?_
  refine At.tN ?_
  refine At.seq ?_
  refine At.plain [(false, 0), (false, 1), (false, 2)] rfl ?_
  refine At.e rfl rfl rfl rfl .all (R.move (.t rfl)) ?_
  refine At.callRF rfl rfl rfl (.cons (.t rfl) .nil) (by (exact .cons (by (exact rS M0)) .nil)) (c_rSort (by omega)) (fun v1 => ⟨.all, ?_⟩)
  refine At.e rfl rfl rfl rfl .all (R.assign (.t rfl)) ?_
  refine At.nil ?_
  refine At.tN ?_
  refine At.seq ?_
  refine At.plain [(false, 0)] rfl ?_
  refine At.e rfl rfl rfl rfl .all (R.assign .c) ?_
  refine At.nil ?_
  refine At.tN ?_
  refine At.seq ?_
  refine At.seq ?_
  refine At.plain [(false, 0)] rfl ?_
  refine At.e rfl rfl rfl rfl .all (R.assign .c) ?_
  refine At.nil ?_
  refine At.tN ?_
  refine At.block ?_
  refine At.nilRow iK 43 ?_
  refine At.loop3 (fun (i : Nat) (out : List Itm) (v : Value) => i ≤ (sortF l).length ∧ out = keepF (sortF l) vs i ∧ out.length ≤ i) (fun (i : Nat) (out : List Itm) (v : Value) => (sortF l).length - i) (fun (i : Nat) (out : List Itm) (v : Value) => [(0, true, u), (1, true, vv), (5, true, v1), (6, true, v), (7, true, .int .i64 i)]) (fun (i : Nat) (out : List Itm) (v : Value) => [rowE iK 43 v out, rowE iK 43 v1 (sortF l)]) (fun (i : Nat) (out : List Itm) (v : Value) => []) (0) ([]) (.slice none 0 0) ⟨Nat.zero_le _, rfl, Nat.le_refl _⟩ (.cons rfl (.cons rfl (.cons rfl (.cons rfl (.cons rfl .nil))))) (by ((repeat (first | exact List.Sublist.refl _ | exact List.nil_sublist _ | apply List.Sublist.cons_cons | apply List.Sublist.cons)))) rfl (fun i out v hi => ?_)
  obtain ⟨hi1, hi2, hi3⟩ := hi
  refine At.seq ?_
  refine At.seq ?_
  refine At.plain [(false, 0), (false, 1), (false, 2), (false, 3)] rfl ?_
  refine At.e rfl rfl rfl rfl .all (R.move (.t rfl)) ?_
  refine At.e rfl rfl rfl rfl .all (R.move (.t rfl)) ?_
  refine At.e rfl rfl rfl rfl .all (R.lenRd Try.underlying22 (.t rfl) (by (exact wS M3))) ?_
  refine At.e rfl rfl rfl rfl .all (R.lss (.t rfl) (.t rfl)) ?_
  refine At.nil ?_
  refine At.tN ?_
  refine At.condD (.t rfl) (fun c1 => ?_) (fun c1 => ?_)
  · skip
    refine At.skip ?_
    refine At.tN ?_
    refine At.seq ?_
    refine At.block ?_
    refine At.seq ?_
    refine At.drawK [(true, 0), (true, 1), (true, 2), (true, 3), (true, 4), (true, 5), (true, 6), (true, 7), (true, 8), (true, 9), (true, 10), (true, 11), (true, 12), (true, 13), (true, 14), (true, 15), (true, 16), (true, 17), (true, 18), (true, 19)] (by kernel_rfl) (by kernel_rfl) ?_
    refine At.s rfl rfl rfl rfl (Cl.kept fun _ h => h) (R.move (.t rfl)) ?_
    refine At.s rfl rfl rfl rfl (Cl.kept fun _ h => h) (R.addI (.t rfl) .c (fun hg => by omega)) ?_
    refine At.s rfl rfl rfl rfl (Cl.kept fun _ h => h) (R.move (.t rfl)) ?_
    refine At.s rfl rfl rfl rfl (Cl.kept fun _ h => h) (R.lenRd Try.underlying22 (.t rfl) (by (exact wK M3))) ?_
    refine At.s rfl rfl rfl rfl (Cl.kept fun _ h => h) (R.eql (.t rfl) (.t rfl)) ?_
    refine At.s rfl rfl rfl rfl (Cl.kept fun _ h => h) (R.move (.t rfl)) ?_
    refine At.s rfl rfl rfl rfl (Cl.kept fun _ h => h) (R.move (by exact .t rfl)) ?_
    refine At.s rfl rfl rfl rfl (Cl.kept fun _ h => h) (R.move (by exact .t rfl)) ?_
    refine At.s rfl rfl rfl rfl (Cl.kept fun _ h => h) (R.addI (by exact .s rfl) .c (fun hg => by omega)) ?_
    refine At.s rfl rfl rfl rfl (Cl.kept fun _ h => h) (R.indexRd Try.underlying22 sz_43 (by exact .s rfl) (by (exact wK M3)) (by exact .s rfl) (fun hg => (by ((simp [-List.length_eq_zero_iff] at hg; omega))))) ?_
    refine At.s rfl rfl rfl rfl (Cl.kept fun _ h => h) (R.fieldRd fo_43_0 (by exact .s rfl) (by (exact wK M3)) (fun hg => (by omega))) ?_
    refine At.s rfl rfl rfl rfl (Cl.kept fun _ h => h) (R.loadRd Try.underlying3 rfl (by exact .s rfl) (by (exact wK M3)) (fun hg => by exact Ek.getN rfl (by ((simp [-List.length_eq_zero_iff] at hg; omega))))) ?_
    refine At.s rfl rfl rfl rfl (Cl.kept fun _ h => h) (R.move (by exact .t rfl)) ?_
    refine At.s rfl rfl rfl rfl (Cl.kept fun _ h => h) (R.move (by exact .t rfl)) ?_
    refine At.s rfl rfl rfl rfl (Cl.kept fun _ h => h) (R.indexRd Try.underlying22 sz_43 (by exact .s rfl) (by (exact wK M3)) (by exact .s rfl) (fun hg => (by omega))) ?_
    refine At.s rfl rfl rfl rfl (Cl.kept fun _ h => h) (R.fieldRd fo_43_0 (by exact .s rfl) (by (exact wK M3)) (fun hg => (by omega))) ?_
    refine At.s rfl rfl rfl rfl (Cl.kept fun _ h => h) (R.loadRd Try.underlying3 rfl (by exact .s rfl) (by (exact wK M3)) (fun hg => by exact Ek.getN rfl (by omega))) ?_
    refine At.s rfl rfl rfl rfl (Cl.kept fun _ h => h) (R.neq (by exact .s rfl) (by exact .s rfl)) ?_
    refine At.s rfl rfl rfl rfl (Cl.kept fun _ h => h) (R.pickOr (.t rfl) rfl (by simp_all)) ?_
    refine At.s rfl rfl rfl rfl (Cl.kept fun _ h => h) (R.assign (.t rfl)) ?_
    refine At.nil ?_
    refine At.tN ?_
    refine At.seq ?_
    refine At.plain [(false, 0), (false, 1)] rfl ?_
    refine At.e rfl rfl rfl rfl .all (R.move (.t rfl)) ?_
    refine At.e rfl rfl rfl rfl .all (R.assign (.t rfl)) ?_
    refine At.nil ?_
    refine At.tN ?_
    refine At.seq ?_
    refine At.seq ?_
    refine At.plain [(false, 0)] rfl ?_
    refine At.e rfl rfl rfl rfl .all (R.assign .c) ?_
    refine At.nil ?_
    refine At.tN ?_
    refine At.block ?_
    have hlast := lastB_lt (s := sortF l) (i := i) (by omega)
    refine At.loop2 (fun (k : Nat) (b : Bool) => k ≤ vs.length ∧ b = keepB (sortF l) (vs.take k) i) (fun (k : Nat) (b : Bool) => vs.length - k) (fun (k : Nat) (b : Bool) => [(0, true, u), (1, true, vv), (5, true, v1), (6, true, v), (7, true, .int .i64 i), (8, true, .bool (lastB (sortF l) i)), (9, true, .bool b), (10, true, .int .i64 k)]) (fun (k : Nat) (b : Bool) => [rowE iK 43 v out, rowE iK 43 v1 (sortF l)]) (fun (k : Nat) (b : Bool) => []) (0) (lastB (sortF l) i) ⟨Nat.zero_le _, rfl⟩ (.cons rfl (.cons rfl (.cons rfl (.cons rfl (.cons rfl (.cons rfl (.cons rfl (.cons rfl .nil)))))))) (by ((repeat (first | exact List.Sublist.refl _ | exact List.nil_sublist _ | apply List.Sublist.cons_cons | apply List.Sublist.cons)))) rfl (fun k b hi => ?_)
    obtain ⟨hk1, hk2⟩ := hi
    refine At.seq ?_
    refine At.seq ?_
    refine At.plain [(false, 0), (false, 1), (false, 2), (false, 3)] rfl ?_
    refine At.e rfl rfl rfl rfl .all (R.move (.t rfl)) ?_
    refine At.e rfl rfl rfl rfl .all (R.move (.t rfl)) ?_
    refine At.e rfl rfl rfl rfl .all (R.lenRd Try.underlying32 (.t rfl) (by (exact rS M1))) ?_
    refine At.e rfl rfl rfl rfl .all (R.lss (.t rfl) (.t rfl)) ?_
    refine At.nil ?_
    refine At.tN ?_
    refine At.condD (.t rfl) (fun c2 => ?_) (fun c2 => ?_)
    · skip
      refine At.skip ?_
      refine At.tN ?_
      refine At.seq ?_
      refine At.block ?_
      refine At.drawK [(true, 0), (true, 1), (true, 2), (true, 3), (true, 4), (true, 5), (true, 6), (true, 7), (true, 8), (true, 9), (true, 10), (true, 11), (true, 12), (true, 13), (true, 14), (true, 15), (true, 16), (true, 17), (true, 18), (true, 19), (true, 20), (true, 21), (true, 22), (true, 23), (true, 24), (true, 25), (true, 26), (true, 27), (true, 28), (true, 29)] (by kernel_rfl) (by kernel_rfl) ?_
      refine At.s rfl rfl rfl rfl (Cl.kept fun _ h => h) (R.move (.t rfl)) ?_
      refine At.s rfl rfl rfl rfl (Cl.kept fun _ h => h) (R.move (.t rfl)) ?_
      refine At.s rfl rfl rfl rfl (Cl.kept fun _ h => h) (R.move (by exact .t rfl)) ?_
      refine At.s rfl rfl rfl rfl (Cl.kept fun _ h => h) (R.move (by exact .t rfl)) ?_
      refine At.s rfl rfl rfl rfl (Cl.kept fun _ h => h) (R.indexRd Try.underlying22 sz_43 (by exact .s rfl) (by (exact wK M3)) (by exact .s rfl) (fun hg => (by omega))) ?_
      refine At.s rfl rfl rfl rfl (Cl.kept fun _ h => h) (R.fieldRd fo_43_1 (by exact .s rfl) (by (exact wK M3)) (fun hg => (by omega))) ?_
      refine At.s rfl rfl rfl rfl (Cl.kept fun _ h => h) (R.loadRd Try.underlying3 rfl (by exact .s rfl) (by (exact wK M3)) (fun hg => by exact Ek.getN rfl (by omega))) ?_
      refine At.s rfl rfl rfl rfl (Cl.kept fun _ h => h) (R.move (by exact .t rfl)) ?_
      refine At.s rfl rfl rfl rfl (Cl.kept fun _ h => h) (R.move (by exact .t rfl)) ?_
      refine At.s rfl rfl rfl rfl (Cl.kept fun _ h => h) (R.indexRd Try.underlying32 sz_3 (by exact .s rfl) (by (exact rK M1)) (by exact .s rfl) (fun hg => (by omega))) ?_
      refine At.s rfl rfl rfl rfl (Cl.kept fun _ h => h) (R.loadRd Try.underlying3 rfl (by exact .s rfl) (by (exact rK M1)) (fun hg => by exact Ek.get0 rfl (by omega))) ?_
      refine At.s rfl rfl rfl rfl (Cl.kept fun _ h => h) (R.leq (by exact .s rfl) (by exact .s rfl)) ?_
      refine At.s rfl rfl rfl rfl (Cl.kept fun _ h => h) (R.move (by exact .s rfl)) ?_
      refine At.s rfl rfl rfl rfl (Cl.kept fun _ h => h) (R.move (by exact .t rfl)) ?_
      refine At.s rfl rfl rfl rfl (Cl.kept fun _ h => h) (R.move (by exact .s rfl)) ?_
      refine At.s rfl rfl rfl rfl (Cl.kept fun _ h => h) (R.move (by exact .t rfl)) ?_
      refine At.s rfl rfl rfl rfl (Cl.kept fun _ h => h) (R.move (by exact .t rfl)) ?_
      refine At.s rfl rfl rfl rfl (Cl.kept fun _ h => h) (R.addI (by exact .s rfl) .c (fun hg => by omega)) ?_
      refine At.s rfl rfl rfl rfl (Cl.kept fun _ h => h) (R.indexRd Try.underlying22 sz_43 (by exact .s rfl) (by (exact wK M3)) (by exact .s rfl) (fun hg => (by (have h0 := hlast (by revert hg; cases lastB (sortF l) i <;> simp); omega)))) ?_
      refine At.s rfl rfl rfl rfl (Cl.kept fun _ h => h) (R.fieldRd fo_43_1 (by exact .s rfl) (by (exact wK M3)) (fun hg => (by omega))) ?_
      refine At.s rfl rfl rfl rfl (Cl.kept fun _ h => h) (R.loadRd Try.underlying3 rfl (by exact .s rfl) (by (exact wK M3)) (fun hg => by exact Ek.getN rfl (by (have h0 := hlast (by revert hg; cases lastB (sortF l) i <;> simp); omega)))) ?_
      refine At.s rfl rfl rfl rfl (Cl.kept fun _ h => h) (R.move (by exact .t rfl)) ?_
      refine At.s rfl rfl rfl rfl (Cl.kept fun _ h => h) (R.move (by exact .t rfl)) ?_
      refine At.s rfl rfl rfl rfl (Cl.kept fun _ h => h) (R.indexRd Try.underlying32 sz_3 (by exact .s rfl) (by (exact rK M1)) (by exact .s rfl) (fun hg => (by omega))) ?_
      refine At.s rfl rfl rfl rfl (Cl.kept fun _ h => h) (R.loadRd Try.underlying3 rfl (by exact .s rfl) (by (exact rK M1)) (fun hg => by exact Ek.get0 rfl (by omega))) ?_
      refine At.s rfl rfl rfl rfl (Cl.kept fun _ h => h) (R.gtr (by exact .s rfl) (by exact .s rfl)) ?_
      refine At.s rfl rfl rfl rfl (Cl.kept fun _ h => h) (R.pickOr (by exact .s rfl) rfl (by simp_all)) ?_
      refine At.s rfl rfl rfl rfl (Cl.kept fun _ h => h) (R.pickAnd (by exact .s rfl) rfl (by simp_all)) ?_
      refine At.s rfl rfl rfl rfl (Cl.kept fun _ h => h) (R.pickOr (.t rfl) rfl (by simp_all)) ?_
      refine At.s rfl rfl rfl rfl (Cl.kept fun _ h => h) (R.assign (.t rfl)) ?_
      refine At.nil ?_
      refine At.bN ?_
      refine At.tN ?_
      refine At.plain [(false, 0), (false, 1), (false, 2)] rfl ?_
      refine At.e rfl rfl rfl rfl .all (R.move (.t rfl)) ?_
      refine At.e rfl rfl rfl rfl .all (R.addI (.t rfl) .c (fun hg => by omega)) ?_
      refine At.e rfl rfl rfl rfl .all (R.assign (.t rfl)) ?_
      refine At.nil ?_
      refine At.tN ?_
      exact At.again2 (k + 1) ((b || (decide ((gE (sortF l) i).ver ≤ gE vs k) && (lastB (sortF l) i || decide (gE vs k < (gE (sortF l) ((i : Int) + 1)).ver))))) ⟨by omega, keepB_step (by omega) hk2⟩ (by omega) (.cons rfl (.cons rfl (.cons rfl (.cons rfl (.cons rfl (.cons rfl (.cons rfl (.cons rfl .nil)))))))) (by ((repeat (first | exact List.Sublist.refl _ | exact List.nil_sublist _ | apply List.Sublist.cons_cons | apply List.Sublist.cons)))) rfl
    · have hbv : b = keepB (sortF l) vs i := (by rw [hk2, List.take_of_length_le (by omega)])
      refine At.exit ?_
      refine At.tE ?_
      refine At.tE ?_
      refine At.bE ?_
      refine At.tN ?_
      refine At.seq ?_
      refine At.plain [(false, 0)] rfl ?_
      refine At.e rfl rfl rfl rfl .all (R.move (.t rfl)) ?_
      refine At.nil ?_
      refine At.tN ?_
      refine At.cond (.t rfl) (fun c3 => ?_) (fun c3 => ?_)
      · skip
        refine At.plain [(false, 0), (false, 1), (false, 2), (false, 3), (false, 4), (false, 5), (false, 6), (false, 7)] rfl ?_
        refine At.e rfl rfl rfl rfl .all (R.move (.t rfl)) ?_
        refine At.e rfl rfl rfl rfl .all (R.move (.t rfl)) ?_
        refine At.e rfl rfl rfl rfl .all (R.move (.t rfl)) ?_
        refine At.e rfl rfl rfl rfl .all (R.indexRd Try.underlying22 sz_43 (.t rfl) (by (exact wS M3)) (.t rfl) (fun hg => (by omega))) ?_
        refine At.e rfl rfl rfl rfl .all (R.loadRdAgg (us := iK.enc _) Try.underlying43 rfl sz_43 (.t rfl) (by (exact wS M3)) (fun hg => (by omega)) (fun hg => by exact Ek.getA (by omega))) ?_
        refine At.lit (k := iK) rfl rfl rfl Try.underlying22 et_43 (.cons (.t rfl) .nil) (.cons rfl .nil) rfl rfl rfl (fun v2 => ⟨.all, ?_⟩)
        refine At.app (k := iK) rfl rfl rfl Try.underlying22 et_43 (.t rfl) (.t rfl) (fun _ => by (exact U1)) (by (exact wS M2)) (by (simp <;> omega)) (fun v3 => ⟨.all, ?_⟩)
        refine At.e rfl rfl rfl rfl .all (R.assign (.t rfl)) ?_
        refine At.nil ?_
        refine At.bN ?_
        refine At.tN ?_
        refine At.plain [(false, 0), (false, 1), (false, 2)] rfl ?_
        refine At.e rfl rfl rfl rfl .all (R.move (.t rfl)) ?_
        refine At.e rfl rfl rfl rfl .all (R.addI (.t rfl) .c (fun hg => by omega)) ?_
        refine At.e rfl rfl rfl rfl .all (R.assign (.t rfl)) ?_
        refine At.nil ?_
        refine At.tN ?_
        exact At.again3 (i + 1) (out ++ [gE (sortF l) i]) (v3) ⟨by omega, by rw [keepF_yes (hbv.symm.trans c3), hi2], by simp; omega⟩ (by omega) (.cons rfl (.cons rfl (.cons rfl (.cons rfl (.cons rfl .nil))))) (by ((repeat (first | exact List.Sublist.refl _ | exact List.nil_sublist _ | apply List.Sublist.cons_cons | apply List.Sublist.cons)))) rfl
      · skip
        refine At.skip ?_
        refine At.bN ?_
        refine At.tN ?_
        refine At.plain [(false, 0), (false, 1), (false, 2)] rfl ?_
        refine At.e rfl rfl rfl rfl .all (R.move (.t rfl)) ?_
        refine At.e rfl rfl rfl rfl .all (R.addI (.t rfl) .c (fun hg => by omega)) ?_
        refine At.e rfl rfl rfl rfl .all (R.assign (.t rfl)) ?_
        refine At.nil ?_
        refine At.tN ?_
        exact At.again3 (i + 1) (out) (v) ⟨by omega, by rw [keepF_no (hbv.symm.trans c3), hi2], by omega⟩ (by omega) (.cons rfl (.cons rfl (.cons rfl (.cons rfl (.cons rfl .nil))))) (by ((repeat (first | exact List.Sublist.refl _ | exact List.nil_sublist _ | apply List.Sublist.cons_cons | apply List.Sublist.cons)))) rfl
  · skip
    refine At.exit ?_
    refine At.tE ?_
    refine At.tE ?_
    refine At.bE ?_
    refine At.tN ?_
    refine At.seq ?_
    refine At.plain [(false, 0), (false, 1)] rfl ?_
    refine At.e rfl rfl rfl rfl .all (R.move (.t rfl)) ?_
    refine At.e rfl rfl rfl rfl .all (R.assign (.t rfl)) ?_
    refine At.nil ?_
    refine At.tN ?_
    refine At.ret ?_
    exact At.final (N' := [rowE iK 43 v out]) rfl (.t rfl) (by ((repeat (first | exact List.Sublist.refl _ | exact List.nil_sublist _ | apply List.Sublist.cons_cons | apply List.Sublist.cons)))) (⟨by rw [show i = (sortF l).length from by omega] at hi2; rw [hi2], rfl⟩)

end Go.Proofs.Ytejpanipdjknjaa
