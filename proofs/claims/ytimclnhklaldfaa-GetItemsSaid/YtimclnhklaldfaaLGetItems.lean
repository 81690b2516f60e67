/- LGetItems -/
import Derived.Test.YtimclnhklaldfaaL12
namespace Go.Proofs.Ytimclnhklaldfaa
open Go Go.RowKit
set_option maxRecDepth 10000
set_option linter.unusedVariables false
set_option maxHeartbeats 1000000



theorem g_OfN {v : Value} {key wr va : Int} (hk : 0 ≤ key ∧ key ≤ 255) (hw : 0 ≤ wr ∧ wr ≤ 65535) (hv : 0 ≤ va ∧ va ≤ 65535) : Fn Try.prog 19 [v, .int .i64 (key % 64)] [rdE iK v [⟨key % 64 + 100, 0, 5⟩]] [] (IsV (.agg (ansV (⟨0, false, 0, -1, 0⟩ : An)))) := by
  have h := g_Of (v := v) (xs := [⟨key % 64 + 100, 0, 5⟩]) (key := key % 64) (by simp) (by intro x hx; simp at hx; subst hx; simp)
  rwa [show ofA [⟨key % 64 + 100, 0, 5⟩] (key % 64) = (⟨0, false, 0, -1, 0⟩ : An) from by unfold ofA; rw [aget_ofM, List.find?_cons]; simp only [show ¬ key % 64 + 100 = key % 64 from by omega, decide_false]; rfl] at h
theorem g_OfV {v : Value} {key wr va : Int} (hk : 0 ≤ key ∧ key ≤ 255) (hw : 0 ≤ wr ∧ wr ≤ 65535) (hv : 0 ≤ va ∧ va ≤ 65535) : Fn Try.prog 19 [v, .int .i64 (key % 64)] [rdE iK v [⟨key % 64 + 100, 0, 5⟩, ⟨key % 64, 3, (wr * 2097152 + (va + 1))⟩]] [] (IsV (.agg (ansV (⟨0, true, va, wr, 0⟩ : An)))) := by
  have h := g_Of (v := v) (xs := [⟨key % 64 + 100, 0, 5⟩, ⟨key % 64, 3, (wr * 2097152 + (va + 1))⟩]) (key := key % 64) (by simp) (by intro x hx; simp at hx; rcases hx with rfl | rfl <;> dsimp only <;> omega)
  rwa [show ofA [⟨key % 64 + 100, 0, 5⟩, ⟨key % 64, 3, (wr * 2097152 + (va + 1))⟩] (key % 64) = (⟨0, true, va, wr, 0⟩ : An) from by
    unfold ofA; rw [aget_ofM, List.find?_cons, List.find?_cons]
    simp only [show ¬ key % 64 + 100 = key % 64 from by omega, decide_false, decide_true, Option.map_some]
    rw [show (wr * 2097152 + (va + 1)) % 2097152 = va + 1 from by omega, show (wr * 2097152 + (va + 1)) / 2097152 = wr from by omega]
    rw [if_neg (by omega)]; congr 1; omega] at h
theorem g_OfD {v : Value} {key wr va : Int} (hk : 0 ≤ key ∧ key ≤ 255) (hw : 0 ≤ wr ∧ wr ≤ 65535) (hv : 0 ≤ va ∧ va ≤ 65535) : Fn Try.prog 19 [v, .int .i64 (key % 64)] [rdE iK v [⟨key % 64 + 100, 0, 5⟩, ⟨key % 64, 3, (wr * 2097152)⟩]] [] (IsV (.agg (ansV (⟨0, false, 0, wr, 0⟩ : An)))) := by
  have h := g_Of (v := v) (xs := [⟨key % 64 + 100, 0, 5⟩, ⟨key % 64, 3, (wr * 2097152)⟩]) (key := key % 64) (by simp) (by intro x hx; simp at hx; rcases hx with rfl | rfl <;> dsimp only <;> omega)
  rwa [show ofA [⟨key % 64 + 100, 0, 5⟩, ⟨key % 64, 3, (wr * 2097152)⟩] (key % 64) = (⟨0, false, 0, wr, 0⟩ : An) from by
    unfold ofA; rw [aget_ofM, List.find?_cons, List.find?_cons]
    simp only [show ¬ key % 64 + 100 = key % 64 from by omega, decide_false, decide_true, Option.map_some]
    rw [show (wr * 2097152) % 2097152 = 0 from by omega, show (wr * 2097152) / 2097152 = wr from by omega]
    rw [if_pos (by omega)]] at h
theorem c_GetItems {key wr va : Int} {del the : Bool} (hk : 0 ≤ key ∧ key ≤ 255) (hw : 0 ≤ wr ∧ wr ≤ 65535) (hv : 0 ≤ va ∧ va ≤ 65535) : Fn Try.prog 4 [.int .u8 key, .int .u16 wr, .int .u16 va, .bool del, .bool the] ([]) ([]) (IsV (.bool true)) := by
  refine Fn.enter Try.func4 (by kernel_rfl) rfl (n := 107) rfl rfl (fun w => ?_)
  refine At.seq ?_
  refine At.plain [(false, 0)] rfl ?_
  refine At.e rfl rfl rfl rfl .all (R.assign .c) ?_
  refine At.nil ?_
  refine At.tN ?_
  refine At.seq ?_
  refine At.seq ?_
  refine At.plain [(false, 0), (false, 1)] rfl ?_
  refine At.callVR rfl rfl rfl .nil (by (exact .nil)) (fun hg => c_known12) .all ?_
  refine At.e rfl rfl rfl rfl .all (R.not (.t rfl)) ?_
  refine At.nil ?_
  refine At.tN ?_
  refine At.condF (.t rfl) ?_
  refine At.skip ?_
  refine At.tN ?_
  refine At.seq ?_
  refine At.plain [(false, 0), (false, 1), (false, 2), (false, 3)] rfl ?_
  refine At.e rfl rfl rfl rfl .all (R.move (.t rfl)) ?_
  refine At.e rfl rfl rfl rfl .all (R.remI (.t rfl) .c (fun hg => by omega)) ?_
  refine At.e rfl rfl rfl rfl .all (R.as (R.conv Try.underlying5 Try.underlying3 (.t rfl)) (fun _ => congrArg (Value.int .i64) (IntWalk.i64_in _ (by omega)))) ?_
  refine At.e rfl rfl rfl rfl .all (R.assign (.t rfl)) ?_
  refine At.nil ?_
  refine At.tN ?_
  refine At.seq ?_
  refine At.plain [(false, 0), (false, 1), (false, 2), (false, 3), (false, 4), (false, 5), (false, 6), (false, 7)] rfl ?_
  refine At.e rfl rfl rfl rfl .all (R.move (.t rfl)) ?_
  refine At.e rfl rfl rfl rfl .all (R.as (R.conv Try.underlying23 Try.underlying3 (.t rfl)) (fun _ => congrArg (Value.int .i64) (IntWalk.i64_in _ (by omega)))) ?_
  refine At.e rfl rfl rfl rfl .all (R.shlV (m := 2097152) (.t rfl) .c (by decide) (by decide) (fun _ => IntWalk.i64_in _ (by omega))) ?_
  refine At.e rfl rfl rfl rfl .all (R.move (.t rfl)) ?_
  refine At.e rfl rfl rfl rfl .all (R.as (R.conv Try.underlying23 Try.underlying3 (.t rfl)) (fun _ => congrArg (Value.int .i64) (IntWalk.i64_in _ (by omega)))) ?_
  refine At.e rfl rfl rfl rfl .all (R.addI (.t rfl) .c (fun hg => by omega)) ?_
  refine At.e rfl rfl rfl rfl .all (R.orV (j := 21) (.t rfl) (.t rfl) (fun _ => by refine ⟨?_, ?_, ?_, ?_, ?_⟩ <;> omega)) ?_
  refine At.e rfl rfl rfl rfl .all (R.assign (.t rfl)) ?_
  refine At.nil ?_
  refine At.tN ?_
  refine At.seq ?_
  refine At.seq ?_
  refine At.plain [(false, 0)] rfl ?_
  refine At.e rfl rfl rfl rfl .all (R.move (.t rfl)) ?_
  refine At.nil ?_
  refine At.tN ?_
  refine At.cond (.t rfl) (fun c2 => ?_) (fun c2 => ?_)
  · subst c2
    refine At.plain [(false, 0), (false, 1), (false, 2), (false, 3)] rfl ?_
    refine At.e rfl rfl rfl rfl .all (R.move (.t rfl)) ?_
    refine At.e rfl rfl rfl rfl .all (R.as (R.conv Try.underlying23 Try.underlying3 (.t rfl)) (fun _ => congrArg (Value.int .i64) (IntWalk.i64_in _ (by omega)))) ?_
    refine At.e rfl rfl rfl rfl .all (R.shlV (m := 2097152) (.t rfl) .c (by decide) (by decide) (fun _ => IntWalk.i64_in _ (by omega))) ?_
    refine At.e rfl rfl rfl rfl .all (R.assign (.t rfl)) ?_
    refine At.nil ?_
    refine At.tN ?_
    refine At.seq ?_
    refine At.plain [(false, 0), (false, 1), (false, 2), (false, 3), (false, 4)] rfl ?_
    refine At.e rfl rfl rfl rfl .all (R.move (.t rfl)) ?_
    refine At.e rfl rfl rfl rfl .all (R.addI (.t rfl) .c (fun hg => by omega)) ?_
    refine At.e rfl rfl rfl rfl .all (R.build bt_45 (.cons (.t rfl) (.cons .c .nil)) (.cons rfl (.cons rfl .nil)) rfl) ?_
    refine At.lit (k := iK) rfl rfl rfl Try.underlying42 et_45 (.cons (.t rfl) .nil) (.cons (y := ⟨_, _, _⟩) rfl .nil) rfl rfl rfl (fun v1 => ⟨.all, ?_⟩)
    refine At.e rfl rfl rfl rfl .all (R.assign (.t rfl)) ?_
    refine At.nil ?_
    refine At.tN ?_
    refine At.seq ?_
    refine At.seq ?_
    refine At.plain [(false, 0)] rfl ?_
    refine At.e rfl rfl rfl rfl .all (R.move (.t rfl)) ?_
    refine At.nil ?_
    refine At.tN ?_
    refine At.cond (.t rfl) (fun c3 => ?_) (fun c3 => ?_)
    · subst c3
      refine At.plain [(false, 0), (false, 1), (false, 2), (false, 3), (false, 4), (false, 5), (false, 6)] rfl ?_
      refine At.e rfl rfl rfl rfl .all (R.move (.t rfl)) ?_
      refine At.e rfl rfl rfl rfl .all (R.move (.t rfl)) ?_
      refine At.e rfl rfl rfl rfl .all (R.move (.t rfl)) ?_
      refine At.e rfl rfl rfl rfl .all (R.build bt_45 (.cons (.t rfl) (.cons .c (.cons (.t rfl) .nil))) (.cons rfl (.cons rfl (.cons rfl .nil))) rfl) ?_
      refine At.lit (k := iK) rfl rfl rfl Try.underlying42 et_45 (.cons (.t rfl) .nil) (.cons (y := ⟨_, _, _⟩) rfl .nil) rfl rfl rfl (fun v2 => ⟨.all, ?_⟩)
      refine At.app (k := iK) rfl rfl rfl Try.underlying42 et_45 (.t rfl) (.t rfl) (fun _ => by (exact U1)) (by (exact wS M0)) (by (simp <;> omega)) (fun v3 => ⟨.all, ?_⟩)
      refine At.e rfl rfl rfl rfl .all (R.assign (.t rfl)) ?_
      refine At.nil ?_
      refine At.tN ?_
      refine At.seq ?_
      refine At.plain [(false, 0), (false, 1), (false, 2), (false, 3), (false, 4)] rfl ?_
      refine At.e rfl rfl rfl rfl .all (R.move (.t rfl)) ?_
      refine At.e rfl rfl rfl rfl .all (R.move (.t rfl)) ?_
      refine At.callP (fst := []) (cap := []) rfl rfl rfl Ev.f (.cons (.t rfl) (.cons (.t rfl) .nil)) rfl (g_OfD hk hw hv) (Rds.cons (by (exact wS M1)) .nil).all (fun v N1 H1 hR => ?_); obtain ⟨rfl, rfl, rfl⟩ := hR; refine ⟨rfl, .all, ?_⟩
      refine At.alloc rfl rfl rfl ze_50 (fun b1 hb1 => ⟨.all, ?_⟩)
      refine At.stAll (vs := [.int .i64 0, .bool false, .int .i64 0, .int .i64 wr, .int .i64 0, .slice none 0 0]) rfl rfl sz_50 (.t rfl) (.t rfl) rfl rfl rfl (.n U0) ⟨.all, ?_⟩
      refine At.nil ?_
      refine At.tN ?_
      refine At.seq ?_
      refine At.seq ?_
      refine At.plain [(false, 0), (false, 1)] rfl ?_
      refine At.e rfl rfl rfl rfl .all (R.move (.t rfl)) ?_
      refine At.e rfl rfl rfl rfl .all (R.not (.t rfl)) ?_
      refine At.nil ?_
      refine At.tN ?_
      refine At.condF (.t rfl) ?_
      refine At.skip ?_
      refine At.tN ?_
      refine At.seq ?_
      refine At.plain [(false, 0), (false, 1), (false, 2), (false, 3), (false, 4), (false, 5), (false, 6), (false, 7), (false, 8), (false, 9), (false, 10), (false, 11), (false, 12), (false, 13), (false, 14), (false, 15), (false, 16), (false, 17), (false, 18), (false, 19), (false, 20), (false, 21), (false, 22), (false, 23), (false, 24), (false, 25), (false, 26), (false, 27), (false, 28), (false, 29), (false, 30), (false, 31), (false, 32), (false, 33), (false, 34), (false, 35), (false, 36), (false, 37), (false, 38), (false, 39), (false, 40), (false, 41), (false, 42), (false, 43), (false, 44), (false, 45), (false, 46), (false, 47)] rfl ?_
      refine At.e rfl rfl rfl rfl .all (R.fieldAddr fo_50_3 (.t rfl)) ?_
      refine At.e rfl rfl rfl rfl .all (R.load Try.underlying3 rfl (.t rfl) (by exact cS M0 rfl)) ?_
      refine At.e rfl rfl rfl rfl .all (R.move (.t rfl)) ?_
      refine At.e rfl rfl rfl rfl .all (R.as (R.conv Try.underlying23 Try.underlying3 (.t rfl)) (fun _ => congrArg (Value.int .i64) (IntWalk.i64_in _ (by omega)))) ?_
      refine At.e rfl rfl rfl rfl .all (R.as (R.eql (.t rfl) (.t rfl)) (fun _ => congrArg Value.bool (decide_eq_true (by rfl)))) ?_
      refine At.e rfl rfl rfl rfl .all (R.move (.t rfl)) ?_
      refine At.e rfl rfl rfl rfl .all (R.fieldAddr fo_50_1 (by exact .t rfl)) ?_
      refine At.e rfl rfl rfl rfl .all (R.load Try.underlying4 rfl (by exact .t rfl) (by exact cS M0 rfl)) ?_
      refine At.e rfl rfl rfl rfl .all (R.move (by exact .t rfl)) ?_
      refine At.e rfl rfl rfl rfl .all (R.not (by exact .t rfl)) ?_
      refine At.e rfl rfl rfl rfl .all (R.as (R.eqlB Try.underlying4 (by exact .t rfl) (by exact .t rfl)) (fun _ => congrArg Value.bool (beq_self_eq_true _))) ?_
      refine At.e rfl rfl rfl rfl .all (R.pickT (.t rfl) (.t rfl)) ?_
      refine At.e rfl rfl rfl rfl .all (R.move (.t rfl)) ?_
      refine At.e rfl rfl rfl rfl .all (R.move (by exact .t rfl)) ?_
      refine At.e rfl rfl rfl rfl .all (R.move (by exact .t rfl)) ?_
      refine At.e rfl rfl rfl rfl .all (R.fieldAddr fo_50_2 (by exact .t rfl)) ?_
      refine At.e rfl rfl rfl rfl .all (R.load Try.underlying3 rfl (by exact .t rfl) (by exact cS M0 rfl)) ?_
      refine At.e rfl rfl rfl rfl .all (R.as (R.eql (by exact .t rfl) .c) (fun _ => congrArg Value.bool (decide_eq_true (by rfl)))) ?_
      refine At.e rfl rfl rfl rfl .all (R.pickT (by exact .t rfl) (by exact .t rfl)) ?_
      refine At.e rfl rfl rfl rfl .all (R.move (by exact .t rfl)) ?_
      refine At.eFb rfl rfl rfl rfl .all ?_
      refine At.eFb rfl rfl rfl rfl .all ?_
      refine At.eFb rfl rfl rfl rfl .all ?_
      refine At.eF rfl rfl rfl rfl .all ?_
      refine At.eF rfl rfl rfl rfl .all ?_
      refine At.eF rfl rfl rfl rfl .all ?_
      refine At.eF rfl rfl rfl rfl .all ?_
      refine At.eFb rfl rfl rfl rfl .all ?_
      refine At.eFb rfl rfl rfl rfl .all ?_
      refine At.e rfl rfl rfl rfl .all (R.pickT (by exact .t rfl) .c) ?_
      refine At.e rfl rfl rfl rfl .all (R.pickT (.t rfl) (.t rfl)) ?_
      refine At.e rfl rfl rfl rfl .all (R.move (.t rfl)) ?_
      refine At.e rfl rfl rfl rfl .all (R.fieldAddr fo_50_0 (by exact .t rfl)) ?_
      refine At.e rfl rfl rfl rfl .all (R.load Try.underlying3 rfl (by exact .t rfl) (by exact cS M0 rfl)) ?_
      refine At.e rfl rfl rfl rfl .all (R.as (R.eql (by exact .t rfl) .c) (fun _ => congrArg Value.bool (decide_eq_true (by rfl)))) ?_
      refine At.e rfl rfl rfl rfl .all (R.pickT (.t rfl) (.t rfl)) ?_
      refine At.e rfl rfl rfl rfl .all (R.move (.t rfl)) ?_
      refine At.e rfl rfl rfl rfl .all (R.fieldAddr fo_50_4 (by exact .t rfl)) ?_
      refine At.e rfl rfl rfl rfl .all (R.load Try.underlying3 rfl (by exact .t rfl) (by exact cS M0 rfl)) ?_
      refine At.e rfl rfl rfl rfl .all (R.as (R.eql (by exact .t rfl) .c) (fun _ => congrArg Value.bool (decide_eq_true (by rfl)))) ?_
      refine At.e rfl rfl rfl rfl .all (R.pickT (.t rfl) (.t rfl)) ?_
      refine At.e rfl rfl rfl rfl .all (R.move (.t rfl)) ?_
      refine At.e rfl rfl rfl rfl .all (R.fieldAddr fo_50_5 (by exact .t rfl)) ?_
      refine At.e rfl rfl rfl rfl .all (R.load Try.underlying48 rfl (by exact .t rfl) (by exact cS M0 rfl)) ?_
      refine At.e rfl rfl rfl rfl .all (R.lenSl Try.underlying48 (A := none) (len := 0) (cap := 0) (by exact .t rfl)) ?_
      refine At.e rfl rfl rfl rfl .all (R.as (R.eql (by exact .t rfl) .c) (fun _ => congrArg Value.bool (decide_eq_true (by rfl)))) ?_
      refine At.e rfl rfl rfl rfl .all (R.pickT (.t rfl) (.t rfl)) ?_
      refine At.e rfl rfl rfl rfl .all (R.assign (.t rfl)) ?_
      refine At.nil ?_
      refine At.tN ?_
      refine At.ret ?_
      exact At.final rfl (.t rfl) (List.nil_sublist _) (⟨congrArg Value.bool (by rfl), rfl, rfl⟩)
    · obtain rfl : the = false := (by simpa using c3)
      refine At.skip ?_
      refine At.tN ?_
      refine At.seq ?_
      refine At.plain [(false, 0), (false, 1), (false, 2), (false, 3), (false, 4)] rfl ?_
      refine At.e rfl rfl rfl rfl .all (R.move (.t rfl)) ?_
      refine At.e rfl rfl rfl rfl .all (R.move (.t rfl)) ?_
      refine At.callP (fst := []) (cap := []) rfl rfl rfl Ev.f (.cons (.t rfl) (.cons (.t rfl) .nil)) rfl (g_OfN hk hw hv) (Rds.cons (by (exact wS M0)) .nil).all (fun v N1 H1 hR => ?_); obtain ⟨rfl, rfl, rfl⟩ := hR; refine ⟨rfl, .all, ?_⟩
      refine At.alloc rfl rfl rfl ze_50 (fun b1 hb1 => ⟨.all, ?_⟩)
      refine At.stAll (vs := [.int .i64 0, .bool false, .int .i64 0, .int .i64 (-1), .int .i64 0, .slice none 0 0]) rfl rfl sz_50 (.t rfl) (.t rfl) rfl rfl rfl (.n U0) ⟨.all, ?_⟩
      refine At.nil ?_
      refine At.tN ?_
      refine At.seq ?_
      refine At.seq ?_
      refine At.plain [(false, 0), (false, 1)] rfl ?_
      refine At.e rfl rfl rfl rfl .all (R.move (.t rfl)) ?_
      refine At.e rfl rfl rfl rfl .all (R.not (.t rfl)) ?_
      refine At.nil ?_
      refine At.tN ?_
      refine At.condT (.t rfl) ?_
      refine At.seq ?_
      refine At.plain [(false, 0), (false, 1), (false, 2), (false, 3), (false, 4), (false, 5), (false, 6), (false, 7), (false, 8), (false, 9), (false, 10), (false, 11), (false, 12), (false, 13)] rfl ?_
      refine At.e rfl rfl rfl rfl .all (R.fieldAddr fo_50_1 (.t rfl)) ?_
      refine At.e rfl rfl rfl rfl .all (R.load Try.underlying4 rfl (.t rfl) (by exact cS M0 rfl)) ?_
      refine At.e rfl rfl rfl rfl .all (R.not (.t rfl)) ?_
      refine At.e rfl rfl rfl rfl .all (R.move (.t rfl)) ?_
      refine At.e rfl rfl rfl rfl .all (R.fieldAddr fo_50_3 (by exact .t rfl)) ?_
      refine At.e rfl rfl rfl rfl .all (R.load Try.underlying3 rfl (by exact .t rfl) (by exact cS M0 rfl)) ?_
      refine At.e rfl rfl rfl rfl .all (R.as (R.eql (by exact .t rfl) .c) (fun _ => congrArg Value.bool (decide_eq_true (by rfl)))) ?_
      refine At.e rfl rfl rfl rfl .all (R.pickT (.t rfl) (.t rfl)) ?_
      refine At.e rfl rfl rfl rfl .all (R.move (.t rfl)) ?_
      refine At.e rfl rfl rfl rfl .all (R.fieldAddr fo_50_2 (by exact .t rfl)) ?_
      refine At.e rfl rfl rfl rfl .all (R.load Try.underlying3 rfl (by exact .t rfl) (by exact cS M0 rfl)) ?_
      refine At.e rfl rfl rfl rfl .all (R.as (R.eql (by exact .t rfl) .c) (fun _ => congrArg Value.bool (decide_eq_true (by rfl)))) ?_
      refine At.e rfl rfl rfl rfl .all (R.pickT (.t rfl) (.t rfl)) ?_
      refine At.e rfl rfl rfl rfl .all (R.assign (.t rfl)) ?_
      refine At.nil ?_
      refine At.tN ?_
      refine At.ret ?_
      refine At.tR ?_
      exact At.final rfl (.t rfl) (List.nil_sublist _) (⟨congrArg Value.bool (by rfl), rfl, rfl⟩)
  · obtain rfl : del = false := (by simpa using c2)
    refine At.skip ?_
    refine At.tN ?_
    refine At.seq ?_
    refine At.plain [(false, 0), (false, 1), (false, 2), (false, 3), (false, 4)] rfl ?_
    refine At.e rfl rfl rfl rfl .all (R.move (.t rfl)) ?_
    refine At.e rfl rfl rfl rfl .all (R.addI (.t rfl) .c (fun hg => by omega)) ?_
    refine At.e rfl rfl rfl rfl .all (R.build bt_45 (.cons (.t rfl) (.cons .c .nil)) (.cons rfl (.cons rfl .nil)) rfl) ?_
    refine At.lit (k := iK) rfl rfl rfl Try.underlying42 et_45 (.cons (.t rfl) .nil) (.cons (y := ⟨_, _, _⟩) rfl .nil) rfl rfl rfl (fun v4 => ⟨.all, ?_⟩)
    refine At.e rfl rfl rfl rfl .all (R.assign (.t rfl)) ?_
    refine At.nil ?_
    refine At.tN ?_
    refine At.seq ?_
    refine At.seq ?_
    refine At.plain [(false, 0)] rfl ?_
    refine At.e rfl rfl rfl rfl .all (R.move (.t rfl)) ?_
    refine At.nil ?_
    refine At.tN ?_
    refine At.cond (.t rfl) (fun c6 => ?_) (fun c6 => ?_)
    · subst c6
      refine At.plain [(false, 0), (false, 1), (false, 2), (false, 3), (false, 4), (false, 5), (false, 6)] rfl ?_
      refine At.e rfl rfl rfl rfl .all (R.move (.t rfl)) ?_
      refine At.e rfl rfl rfl rfl .all (R.move (.t rfl)) ?_
      refine At.e rfl rfl rfl rfl .all (R.move (.t rfl)) ?_
      refine At.e rfl rfl rfl rfl .all (R.build bt_45 (.cons (.t rfl) (.cons .c (.cons (.t rfl) .nil))) (.cons rfl (.cons rfl (.cons rfl .nil))) rfl) ?_
      refine At.lit (k := iK) rfl rfl rfl Try.underlying42 et_45 (.cons (.t rfl) .nil) (.cons (y := ⟨_, _, _⟩) rfl .nil) rfl rfl rfl (fun v5 => ⟨.all, ?_⟩)
      refine At.app (k := iK) rfl rfl rfl Try.underlying42 et_45 (.t rfl) (.t rfl) (fun _ => by (exact U1)) (by (exact wS M0)) (by (simp <;> omega)) (fun v6 => ⟨.all, ?_⟩)
      refine At.e rfl rfl rfl rfl .all (R.assign (.t rfl)) ?_
      refine At.nil ?_
      refine At.tN ?_
      refine At.seq ?_
      refine At.plain [(false, 0), (false, 1), (false, 2), (false, 3), (false, 4)] rfl ?_
      refine At.e rfl rfl rfl rfl .all (R.move (.t rfl)) ?_
      refine At.e rfl rfl rfl rfl .all (R.move (.t rfl)) ?_
      refine At.callP (fst := []) (cap := []) rfl rfl rfl Ev.f (.cons (.t rfl) (.cons (.t rfl) .nil)) rfl (g_OfV hk hw hv) (Rds.cons (by (exact wS M1)) .nil).all (fun v N1 H1 hR => ?_); obtain ⟨rfl, rfl, rfl⟩ := hR; refine ⟨rfl, .all, ?_⟩
      refine At.alloc rfl rfl rfl ze_50 (fun b1 hb1 => ⟨.all, ?_⟩)
      refine At.stAll (vs := [.int .i64 0, .bool true, .int .i64 va, .int .i64 wr, .int .i64 0, .slice none 0 0]) rfl rfl sz_50 (.t rfl) (.t rfl) rfl rfl rfl (.n U0) ⟨.all, ?_⟩
      refine At.nil ?_
      refine At.tN ?_
      refine At.seq ?_
      refine At.seq ?_
      refine At.plain [(false, 0), (false, 1)] rfl ?_
      refine At.e rfl rfl rfl rfl .all (R.move (.t rfl)) ?_
      refine At.e rfl rfl rfl rfl .all (R.not (.t rfl)) ?_
      refine At.nil ?_
      refine At.tN ?_
      refine At.condF (.t rfl) ?_
      refine At.skip ?_
      refine At.tN ?_
      refine At.seq ?_
      refine At.plain [(false, 0), (false, 1), (false, 2), (false, 3), (false, 4), (false, 5), (false, 6), (false, 7), (false, 8), (false, 9), (false, 10), (false, 11), (false, 12), (false, 13), (false, 14), (false, 15), (false, 16), (false, 17), (false, 18), (false, 19), (false, 20), (false, 21), (false, 22), (false, 23), (false, 24), (false, 25), (false, 26), (false, 27), (false, 28), (false, 29), (false, 30), (false, 31), (false, 32), (false, 33), (false, 34), (false, 35), (false, 36), (false, 37), (false, 38), (false, 39), (false, 40), (false, 41), (false, 42), (false, 43), (false, 44), (false, 45), (false, 46), (false, 47)] rfl ?_
      refine At.e rfl rfl rfl rfl .all (R.fieldAddr fo_50_3 (.t rfl)) ?_
      refine At.e rfl rfl rfl rfl .all (R.load Try.underlying3 rfl (.t rfl) (by exact cS M0 rfl)) ?_
      refine At.e rfl rfl rfl rfl .all (R.move (.t rfl)) ?_
      refine At.e rfl rfl rfl rfl .all (R.as (R.conv Try.underlying23 Try.underlying3 (.t rfl)) (fun _ => congrArg (Value.int .i64) (IntWalk.i64_in _ (by omega)))) ?_
      refine At.e rfl rfl rfl rfl .all (R.as (R.eql (.t rfl) (.t rfl)) (fun _ => congrArg Value.bool (decide_eq_true (by rfl)))) ?_
      refine At.e rfl rfl rfl rfl .all (R.move (.t rfl)) ?_
      refine At.e rfl rfl rfl rfl .all (R.fieldAddr fo_50_1 (by exact .t rfl)) ?_
      refine At.e rfl rfl rfl rfl .all (R.load Try.underlying4 rfl (by exact .t rfl) (by exact cS M0 rfl)) ?_
      refine At.e rfl rfl rfl rfl .all (R.move (by exact .t rfl)) ?_
      refine At.e rfl rfl rfl rfl .all (R.not (by exact .t rfl)) ?_
      refine At.e rfl rfl rfl rfl .all (R.as (R.eqlB Try.underlying4 (by exact .t rfl) (by exact .t rfl)) (fun _ => congrArg Value.bool (beq_self_eq_true _))) ?_
      refine At.e rfl rfl rfl rfl .all (R.pickT (.t rfl) (.t rfl)) ?_
      refine At.e rfl rfl rfl rfl .all (R.move (.t rfl)) ?_
      refine At.e rfl rfl rfl rfl .all (R.move (by exact .t rfl)) ?_
      refine At.e rfl rfl rfl rfl .all (R.move (by exact .t rfl)) ?_
      refine At.eF rfl rfl rfl rfl .all ?_
      refine At.eF rfl rfl rfl rfl .all ?_
      refine At.eFb rfl rfl rfl rfl .all ?_
      refine At.e rfl rfl rfl rfl .all (R.pickF (by exact .t rfl) .c) ?_
      refine At.e rfl rfl rfl rfl .all (R.move (by exact .t rfl)) ?_
      refine At.e rfl rfl rfl rfl .all (R.move (by exact .t rfl)) ?_
      refine At.e rfl rfl rfl rfl .all (R.not (by exact .t rfl)) ?_
      refine At.e rfl rfl rfl rfl .all (R.move (by exact .t rfl)) ?_
      refine At.e rfl rfl rfl rfl .all (R.fieldAddr fo_50_2 (by exact .t rfl)) ?_
      refine At.e rfl rfl rfl rfl .all (R.load Try.underlying3 rfl (by exact .t rfl) (by exact cS M0 rfl)) ?_
      refine At.e rfl rfl rfl rfl .all (R.move (by exact .t rfl)) ?_
      refine At.e rfl rfl rfl rfl .all (R.as (R.conv Try.underlying23 Try.underlying3 (by exact .t rfl)) (fun _ => congrArg (Value.int .i64) (IntWalk.i64_in _ (by omega)))) ?_
      refine At.e rfl rfl rfl rfl .all (R.as (R.eql (by exact .t rfl) (by exact .t rfl)) (fun _ => congrArg Value.bool (decide_eq_true (by rfl)))) ?_
      refine At.e rfl rfl rfl rfl .all (R.pickT (by exact .t rfl) (by exact .t rfl)) ?_
      refine At.e rfl rfl rfl rfl .all (R.pickF (by exact .t rfl) (by exact .t rfl)) ?_
      refine At.e rfl rfl rfl rfl .all (R.pickT (.t rfl) (.t rfl)) ?_
      refine At.e rfl rfl rfl rfl .all (R.move (.t rfl)) ?_
      refine At.e rfl rfl rfl rfl .all (R.fieldAddr fo_50_0 (by exact .t rfl)) ?_
      refine At.e rfl rfl rfl rfl .all (R.load Try.underlying3 rfl (by exact .t rfl) (by exact cS M0 rfl)) ?_
      refine At.e rfl rfl rfl rfl .all (R.as (R.eql (by exact .t rfl) .c) (fun _ => congrArg Value.bool (decide_eq_true (by rfl)))) ?_
      refine At.e rfl rfl rfl rfl .all (R.pickT (.t rfl) (.t rfl)) ?_
      refine At.e rfl rfl rfl rfl .all (R.move (.t rfl)) ?_
      refine At.e rfl rfl rfl rfl .all (R.fieldAddr fo_50_4 (by exact .t rfl)) ?_
      refine At.e rfl rfl rfl rfl .all (R.load Try.underlying3 rfl (by exact .t rfl) (by exact cS M0 rfl)) ?_
      refine At.e rfl rfl rfl rfl .all (R.as (R.eql (by exact .t rfl) .c) (fun _ => congrArg Value.bool (decide_eq_true (by rfl)))) ?_
      refine At.e rfl rfl rfl rfl .all (R.pickT (.t rfl) (.t rfl)) ?_
      refine At.e rfl rfl rfl rfl .all (R.move (.t rfl)) ?_
      refine At.e rfl rfl rfl rfl .all (R.fieldAddr fo_50_5 (by exact .t rfl)) ?_
      refine At.e rfl rfl rfl rfl .all (R.load Try.underlying48 rfl (by exact .t rfl) (by exact cS M0 rfl)) ?_
      refine At.e rfl rfl rfl rfl .all (R.lenSl Try.underlying48 (A := none) (len := 0) (cap := 0) (by exact .t rfl)) ?_
      refine At.e rfl rfl rfl rfl .all (R.as (R.eql (by exact .t rfl) .c) (fun _ => congrArg Value.bool (decide_eq_true (by rfl)))) ?_
      refine At.e rfl rfl rfl rfl .all (R.pickT (.t rfl) (.t rfl)) ?_
      refine At.e rfl rfl rfl rfl .all (R.assign (.t rfl)) ?_
      refine At.nil ?_
      refine At.tN ?_
      refine At.ret ?_
      exact At.final rfl (.t rfl) (List.nil_sublist _) (⟨congrArg Value.bool (by rfl), rfl, rfl⟩)
    · obtain rfl : the = false := (by simpa using c6)
      refine At.skip ?_
      refine At.tN ?_
      refine At.seq ?_
      refine At.plain [(false, 0), (false, 1), (false, 2), (false, 3), (false, 4)] rfl ?_
      refine At.e rfl rfl rfl rfl .all (R.move (.t rfl)) ?_
      refine At.e rfl rfl rfl rfl .all (R.move (.t rfl)) ?_
      refine At.callP (fst := []) (cap := []) rfl rfl rfl Ev.f (.cons (.t rfl) (.cons (.t rfl) .nil)) rfl (g_OfN hk hw hv) (Rds.cons (by (exact wS M0)) .nil).all (fun v N1 H1 hR => ?_); obtain ⟨rfl, rfl, rfl⟩ := hR; refine ⟨rfl, .all, ?_⟩
      refine At.alloc rfl rfl rfl ze_50 (fun b1 hb1 => ⟨.all, ?_⟩)
      refine At.stAll (vs := [.int .i64 0, .bool false, .int .i64 0, .int .i64 (-1), .int .i64 0, .slice none 0 0]) rfl rfl sz_50 (.t rfl) (.t rfl) rfl rfl rfl (.n U0) ⟨.all, ?_⟩
      refine At.nil ?_
      refine At.tN ?_
      refine At.seq ?_
      refine At.seq ?_
      refine At.plain [(false, 0), (false, 1)] rfl ?_
      refine At.e rfl rfl rfl rfl .all (R.move (.t rfl)) ?_
      refine At.e rfl rfl rfl rfl .all (R.not (.t rfl)) ?_
      refine At.nil ?_
      refine At.tN ?_
      refine At.condT (.t rfl) ?_
      refine At.seq ?_
      refine At.plain [(false, 0), (false, 1), (false, 2), (false, 3), (false, 4), (false, 5), (false, 6), (false, 7), (false, 8), (false, 9), (false, 10), (false, 11), (false, 12), (false, 13)] rfl ?_
      refine At.e rfl rfl rfl rfl .all (R.fieldAddr fo_50_1 (.t rfl)) ?_
      refine At.e rfl rfl rfl rfl .all (R.load Try.underlying4 rfl (.t rfl) (by exact cS M0 rfl)) ?_
      refine At.e rfl rfl rfl rfl .all (R.not (.t rfl)) ?_
      refine At.e rfl rfl rfl rfl .all (R.move (.t rfl)) ?_
      refine At.e rfl rfl rfl rfl .all (R.fieldAddr fo_50_3 (by exact .t rfl)) ?_
      refine At.e rfl rfl rfl rfl .all (R.load Try.underlying3 rfl (by exact .t rfl) (by exact cS M0 rfl)) ?_
      refine At.e rfl rfl rfl rfl .all (R.as (R.eql (by exact .t rfl) .c) (fun _ => congrArg Value.bool (decide_eq_true (by rfl)))) ?_
      refine At.e rfl rfl rfl rfl .all (R.pickT (.t rfl) (.t rfl)) ?_
      refine At.e rfl rfl rfl rfl .all (R.move (.t rfl)) ?_
      refine At.e rfl rfl rfl rfl .all (R.fieldAddr fo_50_2 (by exact .t rfl)) ?_
      refine At.e rfl rfl rfl rfl .all (R.load Try.underlying3 rfl (by exact .t rfl) (by exact cS M0 rfl)) ?_
      refine At.e rfl rfl rfl rfl .all (R.as (R.eql (by exact .t rfl) .c) (fun _ => congrArg Value.bool (decide_eq_true (by rfl)))) ?_
      refine At.e rfl rfl rfl rfl .all (R.pickT (.t rfl) (.t rfl)) ?_
      refine At.e rfl rfl rfl rfl .all (R.assign (.t rfl)) ?_
      refine At.nil ?_
      refine At.tN ?_
      refine At.ret ?_
      refine At.tR ?_
      exact At.final rfl (.t rfl) (List.nil_sublist _) (⟨congrArg Value.bool (by rfl), rfl, rfl⟩)

end Go.Proofs.Ytimclnhklaldfaa
