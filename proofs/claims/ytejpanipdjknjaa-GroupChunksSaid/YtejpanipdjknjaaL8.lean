/- L8 -/
import Derived.Test.YtejpanipdjknjaaK7
import Derived.Test.YtejpanipdjknjaaEngH
import Derived.Test.YtejpanipdjknjaaL8P
namespace Go.Proofs.Ytejpanipdjknjaa
open Go Go.RowKit
set_option maxRecDepth 10000
set_option linter.unusedVariables false
theorem fo_43_2 : fieldOff? Try.prog 43 2 = some 2 := by kernel_rfl


theorem c_SameItemsT {u v : Value} {a b : List Itm} (h : a = b) : Fn Try.prog 22 [u, v] [rdE iK u a, rdE iK v b] [] (IsV (.bool true)) := by
  have := c_SameItems (u := u) (v := v) (a := a) (b := b); rwa [decide_eq_true h] at this
theorem c_SameIntsT {u v : Value} {a b : List Int} (h : a = b) : Fn Try.prog 19 [u, v] [rdE zK u a, rdE zK v b] [] (IsV (.bool true)) := by
  have := c_SameInts (u := u) (v := v) (a := a) (b := b); rwa [decide_eq_true h] at this
theorem k_sort {u : Value} : Fn Try.prog 35 [u] [rdE iK u ([⟨5, 2, 1⟩, ⟨5, 1, 2⟩, ⟨3, 4, 3⟩, ⟨5, 2, 4⟩, ⟨5, 9, 5⟩] : List Itm)] [] (IsR iK 43 [⟨3, 4, 3⟩, ⟨5, 1, 2⟩, ⟨5, 2, 1⟩, ⟨5, 2, 4⟩, ⟨5, 9, 5⟩]) :=
  (by decide : sortF [⟨5, 2, 1⟩, ⟨5, 1, 2⟩, ⟨3, 4, 3⟩, ⟨5, 2, 4⟩, ⟨5, 9, 5⟩] = [⟨3, 4, 3⟩, ⟨5, 1, 2⟩, ⟨5, 2, 1⟩, ⟨5, 2, 4⟩, ⟨5, 9, 5⟩]) ▸ c_Sort (u := u) (l := [⟨5, 2, 1⟩, ⟨5, 1, 2⟩, ⟨3, 4, 3⟩, ⟨5, 2, 4⟩, ⟨5, 9, 5⟩]) (by decide)
theorem k_lat1 {u : Value} : Fn Try.prog 33 [u, .int .i64 5, .int .i64 8] [rdE iK u ([⟨5, 2, 1⟩, ⟨5, 1, 2⟩, ⟨3, 4, 3⟩, ⟨5, 2, 4⟩, ⟨5, 9, 5⟩] : List Itm)] [] (IsV (.tuple #[.agg (iK.enc ⟨5, 2, 4⟩).toArray, .bool true])) := by
  have := c_Latest (u := u) (l := [⟨5, 2, 1⟩, ⟨5, 1, 2⟩, ⟨3, 4, 3⟩, ⟨5, 2, 4⟩, ⟨5, 9, 5⟩]) (key := 5) (ver := 8)
  rwa [latV, (by decide : latF [⟨5, 2, 1⟩, ⟨5, 1, 2⟩, ⟨3, 4, 3⟩, ⟨5, 2, 4⟩, ⟨5, 9, 5⟩] 5 8 = some ⟨5, 2, 4⟩)] at this
theorem k_lat2 {u : Value} : Fn Try.prog 33 [u, .int .i64 5, .int .i64 0] [rdE iK u ([⟨5, 2, 1⟩, ⟨5, 1, 2⟩, ⟨3, 4, 3⟩, ⟨5, 2, 4⟩, ⟨5, 9, 5⟩] : List Itm)] [] (IsV (.tuple #[.agg (iK.enc ⟨0, 0, 0⟩).toArray, .bool false])) := by
  have := c_Latest (u := u) (l := [⟨5, 2, 1⟩, ⟨5, 1, 2⟩, ⟨3, 4, 3⟩, ⟨5, 2, 4⟩, ⟨5, 9, 5⟩]) (key := 5) (ver := 0)
  rwa [latV, (by decide : latF [⟨5, 2, 1⟩, ⟨5, 1, 2⟩, ⟨3, 4, 3⟩, ⟨5, 2, 4⟩, ⟨5, 9, 5⟩] 5 0 = none)] at this
theorem k_keep1 {u vv : Value} : Fn Try.prog 36 [u, vv] [rdE iK u ([⟨5, 2, 1⟩, ⟨5, 1, 2⟩, ⟨3, 4, 3⟩, ⟨5, 2, 4⟩, ⟨5, 9, 5⟩] : List Itm), rdE zK vv []] [] (IsR iK 43 [⟨3, 4, 3⟩, ⟨5, 9, 5⟩]) :=
  (by decide : keptF [⟨5, 2, 1⟩, ⟨5, 1, 2⟩, ⟨3, 4, 3⟩, ⟨5, 2, 4⟩, ⟨5, 9, 5⟩] [] = [⟨3, 4, 3⟩, ⟨5, 9, 5⟩]) ▸ c_Keep (u := u) (vv := vv) (l := [⟨5, 2, 1⟩, ⟨5, 1, 2⟩, ⟨3, 4, 3⟩, ⟨5, 2, 4⟩, ⟨5, 9, 5⟩]) (vs := []) (by decide) (by decide) (by decide)
theorem k_keep2 {u vv : Value} : Fn Try.prog 36 [u, vv] [rdE iK u ([⟨5, 2, 1⟩, ⟨5, 1, 2⟩, ⟨3, 4, 3⟩, ⟨5, 2, 4⟩, ⟨5, 9, 5⟩] : List Itm), rdE zK vv [2, 3]] [] (IsR iK 43 [⟨3, 4, 3⟩, ⟨5, 2, 4⟩, ⟨5, 9, 5⟩]) :=
  (by decide : keptF [⟨5, 2, 1⟩, ⟨5, 1, 2⟩, ⟨3, 4, 3⟩, ⟨5, 2, 4⟩, ⟨5, 9, 5⟩] [2, 3] = [⟨3, 4, 3⟩, ⟨5, 2, 4⟩, ⟨5, 9, 5⟩]) ▸ c_Keep (u := u) (vv := vv) (l := [⟨5, 2, 1⟩, ⟨5, 1, 2⟩, ⟨3, 4, 3⟩, ⟨5, 2, 4⟩, ⟨5, 9, 5⟩]) (vs := [2, 3]) (by decide) (by decide) (by decide)
theorem k_keep3 {u vv : Value} : Fn Try.prog 36 [u, vv] [rdE iK u ([⟨5, 2, 1⟩, ⟨5, 1, 2⟩, ⟨3, 4, 3⟩, ⟨5, 2, 4⟩, ⟨5, 9, 5⟩] : List Itm), rdE zK vv [1, 2]] [] (IsR iK 43 [⟨3, 4, 3⟩, ⟨5, 1, 2⟩, ⟨5, 2, 4⟩, ⟨5, 9, 5⟩]) :=
  (by decide : keptF [⟨5, 2, 1⟩, ⟨5, 1, 2⟩, ⟨3, 4, 3⟩, ⟨5, 2, 4⟩, ⟨5, 9, 5⟩] [1, 2] = [⟨3, 4, 3⟩, ⟨5, 1, 2⟩, ⟨5, 2, 4⟩, ⟨5, 9, 5⟩]) ▸ c_Keep (u := u) (vv := vv) (l := [⟨5, 2, 1⟩, ⟨5, 1, 2⟩, ⟨3, 4, 3⟩, ⟨5, 2, 4⟩, ⟨5, 9, 5⟩]) (vs := [1, 2]) (by decide) (by decide) (by decide)
theorem k_keys {u : Value} : Fn Try.prog 37 [u] [rdE iK u ([⟨5, 2, 1⟩, ⟨5, 1, 2⟩, ⟨3, 4, 3⟩, ⟨5, 2, 4⟩, ⟨5, 9, 5⟩] : List Itm)] [] (IsR zK 3 [3, 5]) :=
  (by rw [keys_eq]; decide : keysP [⟨5, 2, 1⟩, ⟨5, 1, 2⟩, ⟨3, 4, 3⟩, ⟨5, 2, 4⟩, ⟨5, 9, 5⟩] = [3, 5]) ▸ c_Keys (u := u) (l := [⟨5, 2, 1⟩, ⟨5, 1, 2⟩, ⟨3, 4, 3⟩, ⟨5, 2, 4⟩, ⟨5, 9, 5⟩]) (by decide)
theorem c_known8  : Fn Try.prog 32 [] [] [] (IsV (.bool true)) := by
  refine Fn.enter Try.func32 (by kernel_rfl) rfl (n := 87) rfl rfl (fun w => ?_)
  refine At.seq ?_
  refine At.plain [(false, 0)] rfl ?_
  refine At.e rfl rfl rfl rfl .all (R.assign .c) ?_
  refine At.nil ?_
  refine At.tN ?_
  refine At.seq ?_
  refine At.plain [(false, 0), (false, 1), (false, 2), (false, 3), (false, 4), (false, 5), (false, 6)] rfl ?_
  refine At.e rfl rfl rfl rfl .all (R.build bt_43 (.cons .c (.cons .c (.cons .c .nil))) (.cons rfl (.cons rfl (.cons rfl .nil))) rfl) ?_
  refine At.e rfl rfl rfl rfl .all (R.build bt_43 (.cons .c (.cons .c (.cons .c .nil))) (.cons rfl (.cons rfl (.cons rfl .nil))) rfl) ?_
  refine At.e rfl rfl rfl rfl .all (R.build bt_43 (.cons .c (.cons .c (.cons .c .nil))) (.cons rfl (.cons rfl (.cons rfl .nil))) rfl) ?_
  refine At.e rfl rfl rfl rfl .all (R.build bt_43 (.cons .c (.cons .c (.cons .c .nil))) (.cons rfl (.cons rfl (.cons rfl .nil))) rfl) ?_
  refine At.e rfl rfl rfl rfl .all (R.build bt_43 (.cons .c (.cons .c (.cons .c .nil))) (.cons rfl (.cons rfl (.cons rfl .nil))) rfl) ?_
  refine At.lit (k := iK) rfl rfl rfl Try.underlying22 et_43 (.cons (.t rfl) (.cons (.t rfl) (.cons (.t rfl) (.cons (.t rfl) (.cons (.t rfl) .nil))))) (.cons (y := ⟨_, _, _⟩) rfl (.cons (y := ⟨_, _, _⟩) rfl (.cons (y := ⟨_, _, _⟩) rfl (.cons (y := ⟨_, _, _⟩) rfl (.cons (y := ⟨_, _, _⟩) rfl .nil))))) rfl rfl rfl (fun v1 => ⟨.all, ?_⟩)
  refine At.e rfl rfl rfl rfl .all (R.assign (.t rfl)) ?_
  refine At.nil ?_
  refine At.tN ?_
  refine At.seq ?_
  refine At.plain [(false, 0), (false, 1), (false, 2)] rfl ?_
  refine At.e rfl rfl rfl rfl .all (R.move (.t rfl)) ?_
  refine At.callRF rfl rfl rfl (.cons (.t rfl) .nil) (by (exact .cons (by (exact wS M0)) .nil)) (k_sort) (fun v2 => ⟨.all, ?_⟩)
  refine At.e rfl rfl rfl rfl .all (R.assign (.t rfl)) ?_
  refine At.nil ?_
  refine At.tN ?_
  refine At.seq ?_
  refine At.plain [(false, 0), (false, 1), (false, 2), (false, 3), (false, 4), (false, 5), (false, 6), (false, 7)] rfl ?_
  refine At.e rfl rfl rfl rfl .all (R.move (.t rfl)) ?_
  refine At.callVR rfl rfl rfl (.cons (.t rfl) (.cons .c (.cons .c .nil))) (by (exact .cons (by (exact wS M1)) .nil)) (fun hg => k_lat1) .all ?_
  refine At.e rfl rfl rfl rfl .all (R.move (.t rfl)) ?_
  refine At.e rfl rfl rfl rfl .all (R.extract (.t rfl) rfl) ?_
  refine At.e rfl rfl rfl rfl .all (R.extract (.t rfl) rfl) ?_
  refine At.alloc rfl rfl rfl ze_43 (fun b1 hb1 => ⟨.all, ?_⟩)
  refine At.stN rfl rfl sz_43 (.t rfl) (.t rfl) rfl rfl rfl (.n U0) ⟨.all, ?_⟩
  refine At.e rfl rfl rfl rfl .all (R.assign (.t rfl)) ?_
  refine At.nil ?_
  refine At.tN ?_
  refine At.seq ?_
  refine At.plain [(false, 0), (false, 1), (false, 2), (false, 3), (false, 4), (false, 5), (false, 6), (false, 7)] rfl ?_
  refine At.e rfl rfl rfl rfl .all (R.move (.t rfl)) ?_
  refine At.callVR rfl rfl rfl (.cons (.t rfl) (.cons .c (.cons .c .nil))) (by (exact .cons (by (exact wS M2)) .nil)) (fun hg => k_lat2) .all ?_
  refine At.e rfl rfl rfl rfl .all (R.move (.t rfl)) ?_
  refine At.e rfl rfl rfl rfl .all (R.extract (.t rfl) rfl) ?_
  refine At.e rfl rfl rfl rfl .all (R.extract (.t rfl) rfl) ?_
  refine At.alloc rfl rfl rfl ze_43 (fun b2 hb2 => ⟨.all, ?_⟩)
  refine At.stN rfl rfl sz_43 (.t rfl) (.t rfl) rfl rfl rfl (.n U0) ⟨.all, ?_⟩
  refine At.e rfl rfl rfl rfl .all (R.assign (.t rfl)) ?_
  refine At.nil ?_
  refine At.tN ?_
  refine At.seq ?_
  refine At.plain [(false, 0), (false, 1), (false, 2), (false, 3), (false, 4), (false, 5), (false, 6), (false, 7), (false, 8), (false, 9), (false, 10), (false, 11), (false, 12), (false, 13), (false, 14), (false, 15), (false, 16), (false, 17), (false, 18), (false, 19), (false, 20), (false, 21), (false, 22), (false, 23), (false, 24), (false, 25), (false, 26), (false, 27), (false, 28), (false, 29), (false, 30), (false, 31), (false, 32), (false, 33), (false, 34), (false, 35), (false, 36), (false, 37), (false, 38), (false, 39), (false, 40), (false, 41), (false, 42), (false, 43), (false, 44), (false, 45), (false, 46), (false, 47), (false, 48), (false, 49), (false, 50), (false, 51), (false, 52), (false, 53), (false, 54), (false, 55), (false, 56), (false, 57), (false, 58), (false, 59), (false, 60), (false, 61), (false, 62)] rfl ?_
  refine At.e rfl rfl rfl rfl .all (R.move (.t rfl)) ?_
  refine At.e rfl rfl rfl rfl .all (R.lenRd Try.underlying22 (.t rfl) (by (exact wS M2))) ?_
  refine At.e rfl rfl rfl rfl .all (R.as (R.eql (.t rfl) .c) (fun _ => congrArg Value.bool (decide_eq_true (by rfl)))) ?_
  refine At.e rfl rfl rfl rfl .all (R.move (.t rfl)) ?_
  refine At.e rfl rfl rfl rfl .all (R.move (by exact .t rfl)) ?_
  refine At.e rfl rfl rfl rfl .all (R.indexRd Try.underlying22 sz_43 (by exact .t rfl) (by (exact wS M2)) .c (fun hg => (by decide))) ?_
  refine At.e rfl rfl rfl rfl .all (R.fieldRd fo_43_0 (by exact .t rfl) (by (exact wS M2)) (fun hg => (by decide))) ?_
  refine At.e rfl rfl rfl rfl .all (R.loadRd Try.underlying3 rfl (by exact .t rfl) (by (exact wS M2)) (fun hg => by exact Ek.getN rfl (by decide))) ?_
  refine At.e rfl rfl rfl rfl .all (R.as (R.eql (by exact .t rfl) .c) (fun _ => congrArg Value.bool (decide_eq_true (by rfl)))) ?_
  refine At.e rfl rfl rfl rfl .all (R.pickT (.t rfl) (.t rfl)) ?_
  refine At.e rfl rfl rfl rfl .all (R.move (.t rfl)) ?_
  refine At.e rfl rfl rfl rfl .all (R.move (by exact .t rfl)) ?_
  refine At.e rfl rfl rfl rfl .all (R.indexRd Try.underlying22 sz_43 (by exact .t rfl) (by (exact wS M2)) .c (fun hg => (by decide))) ?_
  refine At.e rfl rfl rfl rfl .all (R.fieldRd fo_43_2 (by exact .t rfl) (by (exact wS M2)) (fun hg => (by decide))) ?_
  refine At.e rfl rfl rfl rfl .all (R.loadRd Try.underlying3 rfl (by exact .t rfl) (by (exact wS M2)) (fun hg => by exact Ek.getN rfl (by decide))) ?_
  refine At.e rfl rfl rfl rfl .all (R.as (R.eql (by exact .t rfl) .c) (fun _ => congrArg Value.bool (decide_eq_true (by rfl)))) ?_
  refine At.e rfl rfl rfl rfl .all (R.pickT (.t rfl) (.t rfl)) ?_
  refine At.e rfl rfl rfl rfl .all (R.move (.t rfl)) ?_
  refine At.e rfl rfl rfl rfl .all (R.move (by exact .t rfl)) ?_
  refine At.e rfl rfl rfl rfl .all (R.indexRd Try.underlying22 sz_43 (by exact .t rfl) (by (exact wS M2)) .c (fun hg => (by decide))) ?_
  refine At.e rfl rfl rfl rfl .all (R.fieldRd fo_43_2 (by exact .t rfl) (by (exact wS M2)) (fun hg => (by decide))) ?_
  refine At.e rfl rfl rfl rfl .all (R.loadRd Try.underlying3 rfl (by exact .t rfl) (by (exact wS M2)) (fun hg => by exact Ek.getN rfl (by decide))) ?_
  refine At.e rfl rfl rfl rfl .all (R.as (R.eql (by exact .t rfl) .c) (fun _ => congrArg Value.bool (decide_eq_true (by rfl)))) ?_
  refine At.e rfl rfl rfl rfl .all (R.pickT (.t rfl) (.t rfl)) ?_
  refine At.e rfl rfl rfl rfl .all (R.move (.t rfl)) ?_
  refine At.e rfl rfl rfl rfl .all (R.move (by exact .t rfl)) ?_
  refine At.e rfl rfl rfl rfl .all (R.pickT (.t rfl) (.t rfl)) ?_
  refine At.e rfl rfl rfl rfl .all (R.move (.t rfl)) ?_
  refine At.e rfl rfl rfl rfl .all (R.fieldAddr fo_43_2 (by exact .t rfl)) ?_
  refine At.e rfl rfl rfl rfl .all (R.load Try.underlying3 rfl (by exact .t rfl) (by exact cS M1 rfl)) ?_
  refine At.e rfl rfl rfl rfl .all (R.as (R.eql (by exact .t rfl) .c) (fun _ => congrArg Value.bool (decide_eq_true (by rfl)))) ?_
  refine At.e rfl rfl rfl rfl .all (R.pickT (.t rfl) (.t rfl)) ?_
  refine At.e rfl rfl rfl rfl .all (R.move (.t rfl)) ?_
  refine At.e rfl rfl rfl rfl .all (R.move (by exact .t rfl)) ?_
  refine At.e rfl rfl rfl rfl .all (R.not (by exact .t rfl)) ?_
  refine At.e rfl rfl rfl rfl .all (R.pickT (.t rfl) (.t rfl)) ?_
  refine At.e rfl rfl rfl rfl .all (R.move (.t rfl)) ?_
  refine At.e rfl rfl rfl rfl .all (R.move (by exact .t rfl)) ?_
  refine At.callRF rfl rfl rfl (.cons (by exact .t rfl) (.cons .c .nil)) (by (exact .cons (by (exact wS M3)) (.cons (by (exact RdIn.nil)) .nil))) (k_keep1) (fun v3 => ⟨.all, ?_⟩)
  refine At.e rfl rfl rfl rfl .all (R.lenRd Try.underlying22 (by exact .t rfl) (by (exact wS M0))) ?_
  refine At.e rfl rfl rfl rfl .all (R.as (R.eql (by exact .t rfl) .c) (fun _ => congrArg Value.bool (decide_eq_true (by rfl)))) ?_
  refine At.e rfl rfl rfl rfl .all (R.pickT (.t rfl) (.t rfl)) ?_
  refine At.e rfl rfl rfl rfl .all (R.move (.t rfl)) ?_
  refine At.e rfl rfl rfl rfl .all (R.move (by exact .t rfl)) ?_
  refine At.lit (k := zK) rfl rfl rfl Try.underlying32 et_3 (.cons .c (.cons .c .nil)) (.cons rfl (.cons rfl .nil)) rfl rfl rfl (fun v4 => ⟨.all, ?_⟩)
  refine At.callRF rfl rfl rfl (.cons (by exact .t rfl) (.cons (by exact .t rfl) .nil)) (by (exact .cons (by (exact wS M5)) (.cons (by (exact wS M0)) .nil))) (k_keep2) (fun v5 => ⟨.all, ?_⟩)
  refine At.e rfl rfl rfl rfl .all (R.lenRd Try.underlying22 (by exact .t rfl) (by (exact wS M0))) ?_
  refine At.e rfl rfl rfl rfl .all (R.as (R.eql (by exact .t rfl) .c) (fun _ => congrArg Value.bool (decide_eq_true (by rfl)))) ?_
  refine At.e rfl rfl rfl rfl .all (R.pickT (.t rfl) (.t rfl)) ?_
  refine At.e rfl rfl rfl rfl .all (R.move (.t rfl)) ?_
  refine At.e rfl rfl rfl rfl .all (R.move (by exact .t rfl)) ?_
  refine At.lit (k := zK) rfl rfl rfl Try.underlying32 et_3 (.cons .c (.cons .c .nil)) (.cons rfl (.cons rfl .nil)) rfl rfl rfl (fun v6 => ⟨.all, ?_⟩)
  refine At.callRF rfl rfl rfl (.cons (by exact .t rfl) (.cons (by exact .t rfl) .nil)) (by (exact .cons (by (exact wS M7)) (.cons (by (exact wS M0)) .nil))) (k_keep3) (fun v7 => ⟨.all, ?_⟩)
  refine At.e rfl rfl rfl rfl .all (R.lenRd Try.underlying22 (by exact .t rfl) (by (exact wS M0))) ?_
  refine At.e rfl rfl rfl rfl .all (R.as (R.eql (by exact .t rfl) .c) (fun _ => congrArg Value.bool (decide_eq_true (by rfl)))) ?_
  refine At.e rfl rfl rfl rfl .all (R.pickT (.t rfl) (.t rfl)) ?_
  refine At.e rfl rfl rfl rfl .all (R.move (.t rfl)) ?_
  refine At.e rfl rfl rfl rfl .all (R.move (by exact .t rfl)) ?_
  refine At.callRF rfl rfl rfl (.cons (by exact .t rfl) .nil) (by (exact .cons (by (exact wS M8)) .nil)) (k_keys) (fun v8 => ⟨.all, ?_⟩)
  refine At.lit (k := zK) rfl rfl rfl Try.underlying32 et_3 (.cons .c (.cons .c .nil)) (.cons rfl (.cons rfl .nil)) rfl rfl rfl (fun v9 => ⟨.all, ?_⟩)
  refine At.callVR rfl rfl rfl (.cons (by exact .t rfl) (.cons (by exact .t rfl) .nil)) (by (exact .cons (by (exact wS M1)) (.cons (by (exact wS M0)) .nil))) (fun hg => c_SameIntsT rfl) .all ?_
  refine At.e rfl rfl rfl rfl .all (R.pickT (.t rfl) (.t rfl)) ?_
  refine At.e rfl rfl rfl rfl .all (R.assign (.t rfl)) ?_
  refine At.nil ?_
  refine At.tN ?_
  refine At.ret ?_
  exact At.final rfl (.t rfl) (List.nil_sublist _) (⟨congrArg Value.bool (by rfl), rfl, rfl⟩)

end Go.Proofs.Ytejpanipdjknjaa
