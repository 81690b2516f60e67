/- G10 -/
import Derived.Test.YtejpanipdjknjaaG9
namespace Go.Proofs.Ytejpanipdjknjaa
open Go Go.RowKit
set_option maxRecDepth 10000
set_option linter.unusedVariables false
theorem bt_24 : buildTab Try.prog 24 = some (#[.int .i64 0, .int .i64 0, .int .i64 0, .int .i64 0], [(0, 1), (1, 1), (2, 1), (3, 1)]) := by kernel_rfl
theorem fo_24_0 : fieldOff? Try.prog 24 0 = some 0 := by kernel_rfl
theorem fo_24_2 : fieldOff? Try.prog 24 2 = some 2 := by kernel_rfl
theorem fo_24_3 : fieldOff? Try.prog 24 3 = some 3 := by kernel_rfl
theorem ze_24 : (Try.prog.info? 24).bind (·.zero) = some (.agg #[.int .i64 0, .int .i64 0, .int .i64 0, .int .i64 0]) := by kernel_rfl

theorem bits_and1 (a : Int) (h0 : 0 ≤ a) (h1 : a ≤ 9223372036854775807) : bits .and .i64 a 1 = a % 2 := by
  have hx : (BitVec.ofInt 64 a).toNat = a.toNat := by
    rw [BitVec.toNat_ofInt]; omega
  have h2 : (BitVec.ofInt 64 (1 : Int)).toNat = 1 := rfl
  show IntKind.i64.wrap ((BitVec.ofInt 64 a &&& BitVec.ofInt 64 (1 : Int)).toNat : Int) = _
  rw [BitVec.toNat_and, hx, h2, Nat.and_one_is_mod, IntWalk.i64_in _ ⟨by omega, by omega⟩]
  omega
theorem R.and1 {P : Program} {n : Nat} {l : Fr} {C : World → Prop} {g : Bool} {d : Option Tmp} {x : Operand} {T U : TypeId} {ty : TypeId} {pos : String} {af : Array Edge} {gd : Option (Nat × Bool)} {a : Int} (hx : Ev n l g x (.int .i64 a)) (hb : 0 ≤ a ∧ a ≤ 9223372036854775807) :
    RunsC P n l C g ⟨d, .binOp .and T x (.const (.int .i64 1)) U, ty, pos, af, gd⟩ (.int .i64 (a % 2)) := fun hg A w ha _ => by
  have e : A.eval (.const (.int .i64 1)) = .int .i64 1 := rfl
  rw [← bits_and1 a hb.1 hb.2]
  simp [execOp, hx.eq hg ha, e, eqGuard, binOp, intBits_and]
def isConfF (a b c d : Int) : Int :=
  if (a < 1 ∨ 8 < a ∨ b < a + 2 ∨ 16 < b ∨ d < 1 ∨ 1048576 < d ∨ c < 1 ∨ 20000 < c) then 10 else if c < 21 + a + 3 * b then 14 else 0
theorem isConf_zero {a b c d : Int} (h : isConfF a b c d = 0) : 1 ≤ a ∧ a ≤ 8 ∧ a + 2 ≤ b ∧ b ≤ 16 ∧ 1 ≤ d ∧ d ≤ 1048576 ∧ 1 ≤ c ∧ c ≤ 20000 ∧ 21 + a + 3 * b ≤ c := by
  unfold isConfF at h
  split at h
  · cases h
  · split at h
    · cases h
    · omega
theorem c_rSizeI {a b c d : Int} (h2 : 0 ≤ b) (h3 : b ≤ 1000000) : Fn Try.prog 28 [.agg #[.int .i64 a, .int .i64 b, .int .i64 c, .int .i64 d]] [] [] (IsV (.int .i64 (7 + 3 * b))) := by
  refine Fn.enter Try.func28 (by kernel_rfl) rfl (n := 7) rfl rfl (fun w => ?_)
  refine At.seq ?_
  refine At.plain [(false, 0), (false, 1)] rfl ?_
  refine At.box rfl rfl rfl (.t rfl) (fun b1 hb1 => ⟨.all, ?_⟩)
  refine At.e rfl rfl rfl rfl .all (R.assign .c) ?_
  refine At.nil ?_
  refine At.tN ?_
  refine At.seq ?_
  refine At.plain [(false, 0), (false, 1), (false, 2), (false, 3), (false, 4)] rfl ?_
  refine At.e rfl rfl rfl rfl .all (R.fieldAddr fo_24_1 (.t rfl)) ?_
  refine At.e rfl rfl rfl rfl .all (R.load Try.underlying3 rfl (.t rfl) (by exact cS M0 rfl)) ?_
  refine At.e rfl rfl rfl rfl .all (R.mulI .c (.t rfl) (fun hg => by omega)) ?_
  refine At.e rfl rfl rfl rfl .all (R.addI .c (.t rfl) (fun hg => by omega)) ?_
  refine At.e rfl rfl rfl rfl .all (R.assign (.t rfl)) ?_
  refine At.nil ?_
  refine At.tN ?_
  refine At.ret ?_
  exact At.final rfl (.t rfl) (List.nil_sublist _) (⟨congrArg (Value.int .i64) (by omega), rfl, rfl⟩)

theorem c_rHead {a b c d : Int} (h0 : 0 ≤ a) (h1 : a ≤ 1000000) : Fn Try.prog 63 [.agg #[.int .i64 a, .int .i64 b, .int .i64 c, .int .i64 d]] [] [] (IsV (.int .i64 (7 + a))) := by
  refine Fn.enter Try.func63 (by kernel_rfl) rfl (n := 7) rfl rfl (fun w => ?_)
  refine At.seq ?_
  refine At.plain [(false, 0), (false, 1)] rfl ?_
  refine At.box rfl rfl rfl (.t rfl) (fun b1 hb1 => ⟨.all, ?_⟩)
  refine At.e rfl rfl rfl rfl .all (R.assign .c) ?_
  refine At.nil ?_
  refine At.tN ?_
  refine At.seq ?_
  refine At.plain [(false, 0), (false, 1), (false, 2), (false, 3), (false, 4)] rfl ?_
  refine At.e rfl rfl rfl rfl .all (R.fieldAddr fo_24_0 (.t rfl)) ?_
  refine At.e rfl rfl rfl rfl .all (R.load Try.underlying3 rfl (.t rfl) (by exact cS M0 rfl)) ?_
  refine At.e rfl rfl rfl rfl .all (R.addI .c (.t rfl) (fun hg => by omega)) ?_
  refine At.e rfl rfl rfl rfl .all (R.addI (.t rfl) .c (fun hg => by omega)) ?_
  refine At.e rfl rfl rfl rfl .all (R.assign (.t rfl)) ?_
  refine At.nil ?_
  refine At.tN ?_
  refine At.ret ?_
  exact At.final rfl (.t rfl) (List.nil_sublist _) (⟨congrArg (Value.int .i64) (by omega), rfl, rfl⟩)

theorem c_rFirst {a b c d : Int} (h0 : 0 ≤ a) (h1 : a ≤ 1000000) : Fn Try.prog 54 [.agg #[.int .i64 a, .int .i64 b, .int .i64 c, .int .i64 d]] [] [] (IsV (.int .i64 (14 + a))) := by
  refine Fn.enter Try.func54 (by kernel_rfl) rfl (n := 6) rfl rfl (fun w => ?_)
  refine At.seq ?_
  refine At.plain [(false, 0), (false, 1)] rfl ?_
  refine At.box rfl rfl rfl (.t rfl) (fun b1 hb1 => ⟨.all, ?_⟩)
  refine At.e rfl rfl rfl rfl .all (R.assign .c) ?_
  refine At.nil ?_
  refine At.tN ?_
  refine At.seq ?_
  refine At.plain [(false, 0), (false, 1), (false, 2), (false, 3)] rfl ?_
  refine At.e rfl rfl rfl rfl .all (R.loadAgg (vs := [_, _, _, _]) Try.underlying24 rfl sz_24 (.t rfl) (by exact csS M0 ⟨rfl, rfl, rfl, rfl, trivial⟩)) ?_
  refine At.callVR rfl rfl rfl (.cons (.t rfl) .nil) (by (exact .nil)) (fun hg => c_rHead (by omega) (by omega)) .all ?_
  refine At.e rfl rfl rfl rfl .all (R.addI (.t rfl) .c (fun hg => by omega)) ?_
  refine At.e rfl rfl rfl rfl .all (R.assign (.t rfl)) ?_
  refine At.nil ?_
  refine At.tN ?_
  refine At.ret ?_
  exact At.final rfl (.t rfl) (List.nil_sublist _) (⟨congrArg (Value.int .i64) (by omega), rfl, rfl⟩)

theorem c_rTop {a b c d : Int} (h0 : 0 ≤ a) (h1 : a ≤ 1000000) (h2 : 0 ≤ b) (h3 : b ≤ 1000000) : Fn Try.prog 39 [.agg #[.int .i64 a, .int .i64 b, .int .i64 c, .int .i64 d]] [] [] (IsV (.int .i64 (21 + a + 3 * b))) := by
  refine Fn.enter Try.func39 (by kernel_rfl) rfl (n := 8) rfl rfl (fun w => ?_)
  refine At.seq ?_
  refine At.plain [(false, 0), (false, 1)] rfl ?_
  refine At.box rfl rfl rfl (.t rfl) (fun b1 hb1 => ⟨.all, ?_⟩)
  refine At.e rfl rfl rfl rfl .all (R.assign .c) ?_
  refine At.nil ?_
  refine At.tN ?_
  refine At.seq ?_
  refine At.drawK [(true, 0), (true, 2), (false, 1), (false, 3), (true, 4), (true, 5)] (by kernel_rfl) (by kernel_rfl) ?_
  refine At.s rfl rfl rfl rfl (Cl.kept fun _ h => h) (R.loadAgg (vs := [_, _, _, _]) Try.underlying24 rfl sz_24 (.t rfl) (by exact csK M0 ⟨rfl, rfl, rfl, rfl, trivial⟩)) ?_
  refine At.s rfl rfl rfl rfl (Cl.kept fun _ h => h) (R.loadAgg (vs := [_, _, _, _]) Try.underlying24 rfl sz_24 (.t rfl) (by exact csK M0 ⟨rfl, rfl, rfl, rfl, trivial⟩)) ?_
  refine At.callVR rfl rfl rfl (.cons (.t rfl) .nil) (by (exact .nil)) (fun hg => c_rFirst (by omega) (by omega)) (Cl.kept (by (exact fun _ h => h))) ?_
  refine At.callVR rfl rfl rfl (.cons (.t rfl) .nil) (by (exact .nil)) (fun hg => c_rSizeI (by omega) (by omega)) (Cl.kept (by (exact fun _ h => h))) ?_
  refine At.s rfl rfl rfl rfl (Cl.kept (by (exact fun _ h => h))) (R.addI (.t rfl) (.t rfl) (fun hg => by omega)) ?_
  refine At.s rfl rfl rfl rfl (Cl.kept (by (exact fun _ h => h))) (R.assign (.t rfl)) ?_
  refine At.nil ?_
  refine At.tN ?_
  refine At.ret ?_
  exact At.final rfl (.t rfl) (List.nil_sublist _) (⟨congrArg (Value.int .i64) (by omega), rfl, rfl⟩)

theorem c_Conf {a b c : Int} : Fn Try.prog 27 [.int .i64 a, .int .i64 b, .int .i64 c] [] [] (IsV (.agg #[.int .i64 a, .int .i64 b, .int .i64 c, .int .i64 1000])) := by
  refine Fn.enter Try.func27 (by kernel_rfl) rfl (n := 11) rfl rfl (fun w => ?_)
  refine At.seq ?_
  refine At.plain [(false, 0)] rfl ?_
  refine At.alloc rfl rfl rfl ze_24 (fun b1 hb1 => ⟨.all, ?_⟩)
  refine At.nil ?_
  refine At.tN ?_
  refine At.seq ?_
  refine At.plain [(false, 0), (false, 1), (false, 2), (false, 3), (false, 4)] rfl ?_
  refine At.e rfl rfl rfl rfl .all (R.move (.t rfl)) ?_
  refine At.e rfl rfl rfl rfl .all (R.move (.t rfl)) ?_
  refine At.e rfl rfl rfl rfl .all (R.move (.t rfl)) ?_
  refine At.e rfl rfl rfl rfl .all (R.build bt_24 (.cons (.t rfl) (.cons (.t rfl) (.cons (.t rfl) (.cons .c .nil)))) (.cons rfl (.cons rfl (.cons rfl (.cons rfl .nil)))) rfl) ?_
  refine At.stN rfl rfl sz_24 (.t rfl) (.t rfl) rfl rfl rfl (.n U0) ⟨.all, ?_⟩
  refine At.nil ?_
  refine At.tN ?_
  refine At.ret ?_
  exact At.final rfl (.a (vs := [_, _, _, _]) Try.underlying24 rfl sz_24 rfl (by exact csS M0 ⟨rfl, rfl, rfl, rfl, trivial⟩)) (List.nil_sublist _) (⟨rfl, rfl, rfl⟩)

theorem c_IsConf {a b c d : Int} : Fn Try.prog 15 [.agg #[.int .i64 a, .int .i64 b, .int .i64 c, .int .i64 d]] [] [] (IsV (.int .i64 (isConfF a b c d))) := by
  refine Fn.enter Try.func15 (by kernel_rfl) rfl (n := 49) rfl rfl (fun w => ?_)
  refine At.seq ?_
  refine At.plain [(false, 0), (false, 1)] rfl ?_
  refine At.box rfl rfl rfl (.t rfl) (fun b1 hb1 => ⟨.all, ?_⟩)
  refine At.e rfl rfl rfl rfl .all (R.assign .c) ?_
  refine At.nil ?_
  refine At.tN ?_
  refine At.seq ?_
  refine At.seq ?_
  refine At.plain [(false, 0), (false, 1), (false, 2), (false, 3), (false, 4), (false, 5), (false, 6), (false, 7), (false, 8), (false, 9), (false, 10), (false, 11), (false, 12), (false, 13), (false, 14), (false, 15), (false, 16), (false, 17), (false, 18), (false, 19), (false, 20), (false, 21), (false, 22), (false, 23), (false, 24), (false, 25), (false, 26), (false, 27), (false, 28), (false, 29), (false, 30), (false, 31), (false, 32), (false, 33), (false, 34), (false, 35), (false, 36), (false, 37), (false, 38), (false, 39), (false, 40)] rfl ?_
  refine At.e rfl rfl rfl rfl .all (R.fieldAddr fo_24_0 (.t rfl)) ?_
  refine At.e rfl rfl rfl rfl .all (R.load Try.underlying3 rfl (.t rfl) (by exact cS M0 rfl)) ?_
  refine At.e rfl rfl rfl rfl .all (R.lss (.t rfl) .c) ?_
  refine At.e rfl rfl rfl rfl .all (R.move (.t rfl)) ?_
  refine At.e rfl rfl rfl rfl .all (R.fieldAddr fo_24_0 (by exact .t rfl)) ?_
  refine At.e rfl rfl rfl rfl .all (R.load Try.underlying3 rfl (by exact .s rfl) (by exact cS M0 rfl)) ?_
  refine At.e rfl rfl rfl rfl .all (R.gtr (by exact .s rfl) .c) ?_
  refine At.e rfl rfl rfl rfl .all (R.pickOr (.t rfl) rfl (by (simp_all; done))) ?_
  refine At.e rfl rfl rfl rfl .all (R.move (.t rfl)) ?_
  refine At.e rfl rfl rfl rfl .all (R.fieldAddr fo_24_1 (by exact .t rfl)) ?_
  refine At.e rfl rfl rfl rfl .all (R.load Try.underlying3 rfl (by exact .s rfl) (by exact cS M0 rfl)) ?_
  refine At.e rfl rfl rfl rfl .all (R.fieldAddr fo_24_0 (by exact .t rfl)) ?_
  refine At.e rfl rfl rfl rfl .all (R.load Try.underlying3 rfl (by exact .s rfl) (by exact cS M0 rfl)) ?_
  refine At.e rfl rfl rfl rfl .all (R.addI (by exact .s rfl) .c (fun hg => by (simp [-List.length_eq_zero_iff] at hg; omega))) ?_
  refine At.e rfl rfl rfl rfl .all (R.lss (by exact .s rfl) (by exact .s rfl)) ?_
  refine At.e rfl rfl rfl rfl .all (R.pickOr (.t rfl) rfl (by (simp_all; done))) ?_
  refine At.e rfl rfl rfl rfl .all (R.move (.t rfl)) ?_
  refine At.e rfl rfl rfl rfl .all (R.fieldAddr fo_24_1 (by exact .t rfl)) ?_
  refine At.e rfl rfl rfl rfl .all (R.load Try.underlying3 rfl (by exact .s rfl) (by exact cS M0 rfl)) ?_
  refine At.e rfl rfl rfl rfl .all (R.gtr (by exact .s rfl) .c) ?_
  refine At.e rfl rfl rfl rfl .all (R.pickOr (.t rfl) rfl (by (simp_all; done))) ?_
  refine At.e rfl rfl rfl rfl .all (R.move (.t rfl)) ?_
  refine At.e rfl rfl rfl rfl .all (R.fieldAddr fo_24_3 (by exact .t rfl)) ?_
  refine At.e rfl rfl rfl rfl .all (R.load Try.underlying3 rfl (by exact .s rfl) (by exact cS M0 rfl)) ?_
  refine At.e rfl rfl rfl rfl .all (R.lss (by exact .s rfl) .c) ?_
  refine At.e rfl rfl rfl rfl .all (R.pickOr (.t rfl) rfl (by (simp_all; done))) ?_
  refine At.e rfl rfl rfl rfl .all (R.move (.t rfl)) ?_
  refine At.e rfl rfl rfl rfl .all (R.fieldAddr fo_24_3 (by exact .t rfl)) ?_
  refine At.e rfl rfl rfl rfl .all (R.load Try.underlying3 rfl (by exact .s rfl) (by exact cS M0 rfl)) ?_
  refine At.e rfl rfl rfl rfl .all (R.gtr (by exact .s rfl) .c) ?_
  refine At.e rfl rfl rfl rfl .all (R.pickOr (.t rfl) rfl (by (simp_all; done))) ?_
  refine At.e rfl rfl rfl rfl .all (R.move (.t rfl)) ?_
  refine At.e rfl rfl rfl rfl .all (R.fieldAddr fo_24_2 (by exact .t rfl)) ?_
  refine At.e rfl rfl rfl rfl .all (R.load Try.underlying3 rfl (by exact .s rfl) (by exact cS M0 rfl)) ?_
  refine At.e rfl rfl rfl rfl .all (R.lss (by exact .s rfl) .c) ?_
  refine At.e rfl rfl rfl rfl .all (R.pickOr (.t rfl) rfl (by (simp_all; done))) ?_
  refine At.e rfl rfl rfl rfl .all (R.move (.t rfl)) ?_
  refine At.e rfl rfl rfl rfl .all (R.fieldAddr fo_24_2 (by exact .t rfl)) ?_
  refine At.e rfl rfl rfl rfl .all (R.load Try.underlying3 rfl (by exact .s rfl) (by exact cS M0 rfl)) ?_
  refine At.e rfl rfl rfl rfl .all (R.gtr (by exact .s rfl) .c) ?_
  refine At.e rfl rfl rfl rfl .all (R.pickOr (.t rfl) rfl (by (simp_all; done))) ?_
  refine At.nil ?_
  refine At.tN ?_
  refine At.cond (.t rfl) (fun c1 => ?_) (fun c1 => ?_)
  · simp at c1
    refine At.seq ?_
    refine At.plain [(false, 0)] rfl ?_
    refine At.e rfl rfl rfl rfl .all (R.assign .c) ?_
    refine At.nil ?_
    refine At.tN ?_
    refine At.ret ?_
    refine At.tR ?_
    exact At.final rfl (.t rfl) (List.nil_sublist _) (⟨congrArg (Value.int .i64) (by unfold isConfF; (rw [if_pos (by omega)])), rfl, rfl⟩)
  · simp at c1
    refine At.skip ?_
    refine At.tN ?_
    refine At.seq ?_
    refine At.seq ?_
    refine At.drawK [(true, 0), (true, 2), (true, 3), (false, 1), (true, 4)] (by kernel_rfl) (by kernel_rfl) ?_
    refine At.s rfl rfl rfl rfl (Cl.kept fun _ h => h) (R.loadAgg (vs := [_, _, _, _]) Try.underlying24 rfl sz_24 (.t rfl) (by exact csK M0 ⟨rfl, rfl, rfl, rfl, trivial⟩)) ?_
    refine At.s rfl rfl rfl rfl (Cl.kept fun _ h => h) (R.fieldAddr fo_24_2 (.t rfl)) ?_
    refine At.s rfl rfl rfl rfl (Cl.kept fun _ h => h) (R.load Try.underlying3 rfl (.t rfl) (by exact cK M0 rfl)) ?_
    refine At.callVR rfl rfl rfl (.cons (.t rfl) .nil) (by (exact .nil)) (fun hg => c_rTop (by omega) (by omega) (by omega) (by omega)) (Cl.kept (by (exact fun _ h => h))) ?_
    refine At.s rfl rfl rfl rfl (Cl.kept (by (exact fun _ h => h))) (R.gtr (.t rfl) (.t rfl)) ?_
    refine At.nil ?_
    refine At.tN ?_
    refine At.condD (.t rfl) (fun c2 => ?_) (fun c2 => ?_)
    · skip
      refine At.seq ?_
      refine At.plain [(false, 0)] rfl ?_
      refine At.e rfl rfl rfl rfl .all (R.assign .c) ?_
      refine At.nil ?_
      refine At.tN ?_
      refine At.ret ?_
      refine At.tR ?_
      exact At.final rfl (.t rfl) (List.nil_sublist _) (⟨congrArg (Value.int .i64) (by unfold isConfF; (rw [if_neg (by omega), if_pos (by omega)])), rfl, rfl⟩)
    · skip
      refine At.skip ?_
      refine At.tN ?_
      refine At.seq ?_
      refine At.plain [(false, 0)] rfl ?_
      refine At.e rfl rfl rfl rfl .all (R.assign .c) ?_
      refine At.nil ?_
      refine At.tN ?_
      refine At.ret ?_
      exact At.final rfl (.t rfl) (List.nil_sublist _) (⟨congrArg (Value.int .i64) (by unfold isConfF; (rw [if_neg (by omega), if_neg (by omega)])), rfl, rfl⟩)

theorem c_Marked {a : Int} (h0 : 0 ≤ a) (h1 : a ≤ 9223372036854775807) : Fn Try.prog 30 [.int .i64 a] [] [] (IsV (.bool (decide (a % 2 = 1)))) := by
  refine Fn.enter Try.func30 (by kernel_rfl) rfl (n := 6) rfl rfl (fun w => ?_)
  refine At.seq ?_
  refine At.plain [(false, 0)] rfl ?_
  refine At.e rfl rfl rfl rfl .all (R.assign .c) ?_
  refine At.nil ?_
  refine At.tN ?_
  refine At.seq ?_
  refine At.plain [(false, 0), (false, 1), (false, 2), (false, 3)] rfl ?_
  refine At.e rfl rfl rfl rfl .all (R.move (.t rfl)) ?_
  refine At.e rfl rfl rfl rfl .all (R.and1 (.t rfl) (by omega)) ?_
  refine At.e rfl rfl rfl rfl .all (R.eql (.t rfl) .c) ?_
  refine At.e rfl rfl rfl rfl .all (R.assign (.t rfl)) ?_
  refine At.nil ?_
  refine At.tN ?_
  refine At.ret ?_
  exact At.final rfl (.t rfl) (List.nil_sublist _) (⟨rfl, rfl, rfl⟩)

end Go.Proofs.Ytejpanipdjknjaa
