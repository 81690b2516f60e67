/- K7 -/
import Derived.Test.YtejpanipdjknjaaKeepP
import Derived.Test.YtejpanipdjknjaaRng
namespace Go.Proofs.Ytejpanipdjknjaa
open Go Go.RowKit
set_option maxRecDepth 10000
set_option linter.unusedVariables false
theorem bt_75 : buildTab Try.prog 75 = some (#[.int .i64 0, .int .i64 0], [(0, 1), (1, 1)]) := by kernel_rfl
theorem fq_75 : flatQ Try.prog 75 = some [true, true] := by kernel_rfl

theorem c_Values {b : Nat} : Fn Try.prog 51 [.map (some b)] [] [] (fun v N H => ∃ bm, v = .func (.func 60) #[] #[.pointer (some ⟨bm, 0, none⟩)] ∧ N = [.blk bm (.cells #[.map (some b)] 73)] ∧ H = []) := by
  refine Fn.enter Try.func51 (by kernel_rfl) rfl (n := 4) rfl rfl (fun w => ?_)
  refine At.seq ?_
  refine At.plain [(false, 0), (false, 1)] rfl ?_
  refine At.box rfl rfl rfl (.t rfl) (fun b1 hb1 => ⟨.all, ?_⟩)
  refine At.e rfl rfl rfl rfl .all (R.assign .c) ?_
  refine At.nil ?_
  refine At.tN ?_
  refine At.seq ?_
  refine At.plain [(false, 0), (false, 1)] rfl ?_
  refine At.e rfl rfl rfl rfl .all (R.makeFunc .nil (.cons (.t rfl) .nil)) ?_
  refine At.e rfl rfl rfl rfl .all (R.assign (.t rfl)) ?_
  refine At.nil ?_
  refine At.tN ?_
  refine At.ret ?_
  exact At.final (N' := [.blk b1 (.cells #[.map (some b)] 73)]) rfl (.t rfl) (by ((repeat (first | exact List.Sublist.refl _ | exact List.nil_sublist _ | apply List.Sublist.cons_cons | apply List.Sublist.cons)))) (⟨b1, rfl, rfl, rfl⟩)

theorem c_Keep {u vv : Value} {l : List Itm} {vs : List Int} (hL : l.length ≤ 1000) (hW : ∀ x ∈ l, x.ver ≤ maxI) (hV : vs.length ≤ 1000) : Fn Try.prog 36 [u, vv] [rdE iK u l, rdE zK vv vs] [] (IsR iK 43 (keptF l vs)) := by
  refine Fn.enter Try.func36 (by kernel_rfl) rfl (n := 48) rfl rfl (fun w => ?_)
  refine At.len (v := u) (by (exact rS M0)) (fun hl1 => ?_)
  refine At.len (v := vv) (by (exact rS M1)) (fun hl2 => ?_)
  have hkl := keysP_len l
  refine At.seq ?_
  refine At.plain [(false, 0)] rfl ?_
  refine At.e rfl rfl rfl rfl .all (R.assign .c) ?_
  refine At.nil ?_
  refine At.tN ?_
  refine At.seq ?_
  refine At.plain [(false, 0), (false, 1)] rfl ?_
  refine At.makeMap kfN vfI rfl rfl rfl (fun b1 hb1 => ⟨.all, ?_⟩)
  refine At.e rfl rfl rfl rfl .all (R.assign (.t rfl)) ?_
  refine At.nil ?_
  refine At.tN ?_
  refine At.seq ?_
  refine At.seq ?_
  refine At.plain [(false, 0), (false, 1), (false, 2), (false, 3)] rfl ?_
  refine At.e rfl rfl rfl rfl .all (R.move (.t rfl)) ?_
  refine At.callRF rfl rfl rfl (.cons (.t rfl) .nil) (by (exact .cons (by (exact rS M0)) .nil)) (c_Keys (by omega)) (fun v1 => ⟨.all, ?_⟩)
  refine At.e rfl rfl rfl rfl .all (R.lenRd Try.underlying32 (.t rfl) (by (exact wS M2))) ?_
  refine At.e rfl rfl rfl rfl .all (R.move .c) ?_
  refine At.nil ?_
  refine At.tN ?_
  refine At.block ?_
  refine At.loop2 (fun (i : Nat) (m : List ((Int × Int) × Itm)) => i ≤ (keysP l).length ∧ m = mapK l vs ((keysP l).take i)) (fun (i : Nat) (m : List ((Int × Int) × Itm)) => (keysP l).length - i) (fun (i : Nat) (m : List ((Int × Int) × Itm)) => [(0, true, u), (1, true, vv), (5, true, .map (some b1)), (14, true, v1), (15, true, .int .i64 (keysP l).length), (16, true, .int .i64 i)]) (fun (i : Nat) (m : List ((Int × Int) × Itm)) => [rowE zK 3 v1 (keysP l), mapE kfN vfI b1 m]) (fun (i : Nat) (m : List ((Int × Int) × Itm)) => []) (0) ([]) ⟨Nat.zero_le _, rfl⟩ (.cons rfl (.cons rfl (.cons rfl (.cons rfl (.cons rfl (.cons rfl .nil)))))) (by ((repeat (first | exact List.Sublist.refl _ | exact List.nil_sublist _ | apply List.Sublist.cons_cons | apply List.Sublist.cons)))) rfl (fun i m hi => ?_)
  obtain ⟨hi1, hi2⟩ := hi; have hmN : m.length ≤ 1000000 := (by have := mapK_le hi2; omega)
  refine At.seq ?_
  refine At.plain [(false, 0)] rfl ?_
  refine At.e rfl rfl rfl rfl .all (R.lss (.t rfl) (.t rfl)) ?_
  refine At.nil ?_
  refine At.tN ?_
  refine At.seq ?_
  refine At.condD (.t rfl) (fun c1 => ?_) (fun c1 => ?_)
  · skip
    refine At.skip ?_
    refine At.tN ?_
    refine At.seq ?_
    refine At.block ?_
    refine At.seq ?_
    refine At.plain [(false, 0), (false, 1), (false, 2)] rfl ?_
    refine At.e rfl rfl rfl rfl .all (R.indexRd Try.underlying32 sz_3 (.t rfl) (by (exact wS M2)) (.t rfl) (fun hg => (by omega))) ?_
    refine At.e rfl rfl rfl rfl .all (R.loadRd Try.underlying3 rfl (.t rfl) (by (exact wS M2)) (fun hg => by exact Ek.get0 rfl (by omega))) ?_
    refine At.e rfl rfl rfl rfl .all (R.assign (.t rfl)) ?_
    refine At.nil ?_
    refine At.tN ?_
    refine At.seq ?_
    refine At.plain [(false, 0), (false, 1), (false, 2), (false, 3), (false, 4)] rfl ?_
    refine At.lit (k := zK) rfl rfl rfl Try.underlying32 et_3 (.cons .c .nil) (.cons rfl .nil) rfl rfl rfl (fun v2 => ⟨.all, ?_⟩)
    refine At.e rfl rfl rfl rfl .all (R.move (.t rfl)) ?_
    refine At.app (k := zK) rfl rfl rfl Try.underlying32 et_3 (.t rfl) (.t rfl) (fun _ => by (exact U0)) (by (exact rS M1)) (by (simp <;> omega)) (fun v3 => ⟨.all, ?_⟩)
    refine At.e rfl rfl rfl rfl .all (R.lenRd Try.underlying32 (.t rfl) (by (exact wS M2))) ?_
    refine At.e rfl rfl rfl rfl .all (R.move .c) ?_
    refine At.nil ?_
    refine At.tN ?_
    refine At.block ?_
    have hmx : (maxI :: vs).length = vs.length + 1 := rfl
    refine At.loop2 (fun (j : Nat) (m2 : List ((Int × Int) × Itm)) => j ≤ (maxI :: vs).length ∧ m2 = mapV l (gE (keysP l) (i : Int)) ((maxI :: vs).take j) m) (fun (j : Nat) (m2 : List ((Int × Int) × Itm)) => (maxI :: vs).length - j) (fun (j : Nat) (m2 : List ((Int × Int) × Itm)) => [(0, true, u), (1, true, vv), (5, true, .map (some b1)), (7, true, .int .i64 (gE (keysP l) (i : Int))), (14, true, v1), (15, true, .int .i64 (keysP l).length), (16, true, .int .i64 i), (22, true, v3), (23, true, .int .i64 (maxI :: vs).length), (24, true, .int .i64 j)]) (fun (j : Nat) (m2 : List ((Int × Int) × Itm)) => [rowE zK 3 v3 (maxI :: vs), rowE zK 3 v1 (keysP l), mapE kfN vfI b1 m2]) (fun (j : Nat) (m2 : List ((Int × Int) × Itm)) => []) (0) (m) ⟨Nat.zero_le _, rfl⟩ (.cons rfl (.cons rfl (.cons rfl (.cons rfl (.cons rfl (.cons rfl (.cons rfl (.cons rfl (.cons rfl (.cons rfl .nil)))))))))) (by ((repeat (first | exact List.Sublist.refl _ | exact List.nil_sublist _ | apply List.Sublist.cons_cons | apply List.Sublist.cons)))) rfl (fun j m2 hi => ?_)
    obtain ⟨hj1, hj2⟩ := hi
    refine At.seq ?_
    refine At.plain [(false, 0)] rfl ?_
    refine At.e rfl rfl rfl rfl .all (R.lss (.t rfl) (.t rfl)) ?_
    refine At.nil ?_
    refine At.tN ?_
    refine At.seq ?_
    refine At.condD (.t rfl) (fun c2 => ?_) (fun c2 => ?_)
    · skip
      refine At.skip ?_
      refine At.tN ?_
      refine At.seq ?_
      refine At.block ?_
      refine At.seq ?_
      refine At.plain [(false, 0), (false, 1), (false, 2)] rfl ?_
      refine At.e rfl rfl rfl rfl .all (R.indexRd Try.underlying32 sz_3 (.t rfl) (by (exact wS M2)) (.t rfl) (fun hg => (by omega))) ?_
      refine At.e rfl rfl rfl rfl .all (R.loadRd Try.underlying3 rfl (.t rfl) (by (exact wS M2)) (fun hg => by exact Ek.get0 rfl (by omega))) ?_
      refine At.e rfl rfl rfl rfl .all (R.assign (.t rfl)) ?_
      refine At.nil ?_
      refine At.tN ?_
      refine At.seq ?_
      refine At.plain [(false, 0), (false, 1), (false, 2), (false, 3), (false, 4), (false, 5), (false, 6), (false, 7), (false, 8), (false, 9)] rfl ?_
      refine At.e rfl rfl rfl rfl .all (R.move (.t rfl)) ?_
      refine At.e rfl rfl rfl rfl .all (R.move (.t rfl)) ?_
      refine At.e rfl rfl rfl rfl .all (R.move (.t rfl)) ?_
      refine At.callVR rfl rfl rfl (.cons (.t rfl) (.cons (.t rfl) (.cons (.t rfl) .nil))) (by (exact .cons (by (exact rS M0)) .nil)) (fun hg => c_Latest (l := l) (key := gE (keysP l) (i : Int)) (ver := gE (maxI :: vs) (j : Int))) .all ?_
      refine At.e rfl rfl rfl rfl .all (R.move (.t rfl)) ?_
      refine At.e rfl rfl rfl rfl .all (R.extract (.t rfl) rfl) ?_
      refine At.e rfl rfl rfl rfl .all (R.extract (.t rfl) rfl) ?_
      refine At.alloc rfl rfl rfl ze_43 (fun b2 hb2 => ⟨.all, ?_⟩)
      refine At.stN rfl rfl sz_43 (.t rfl) (.t rfl) rfl rfl rfl (.n U0) ⟨.all, ?_⟩
      refine At.e rfl rfl rfl rfl .all (R.assign (.t rfl)) ?_
      refine At.nil ?_
      refine At.tN ?_
      refine At.seq ?_
      refine At.plain [(false, 0)] rfl ?_
      refine At.e rfl rfl rfl rfl .all (R.move (.t rfl)) ?_
      refine At.nil ?_
      refine At.tN ?_
      refine At.cond (.t rfl) (fun c3 => ?_) (fun c3 => ?_)
      · skip
        refine At.plain [(false, 0), (false, 1), (false, 2), (false, 3), (false, 4), (false, 5), (false, 6)] rfl ?_
        refine At.e rfl rfl rfl rfl .all (R.move (.t rfl)) ?_
        refine At.e rfl rfl rfl rfl .all (R.move (.t rfl)) ?_
        refine At.e rfl rfl rfl rfl .all (R.fieldAddr fo_43_1 (.t rfl)) ?_
        refine At.e rfl rfl rfl rfl .all (R.load Try.underlying3 rfl (.t rfl) (by exact cS M2 rfl)) ?_
        refine At.e rfl rfl rfl rfl .all (R.build bt_75 (.cons (.t rfl) (.cons (.t rfl) .nil)) (.cons rfl (.cons rfl .nil)) rfl) ?_
        refine At.e rfl rfl rfl rfl .all (R.loadAgg (vs := [_, _, _]) Try.underlying43 rfl sz_43 (.t rfl) (by exact csS M2 ⟨rfl, rfl, rfl, trivial⟩)) ?_
        refine At.mapUp (kf := kfN) (vf := vfI) (ml := m2) (k := (gE (keysP l) (i : Int), ((latF l (gE (keysP l) (i : Int)) (gE (maxI :: vs) (j : Int))).getD default).ver)) (v := (latF l (gE (keysP l) (i : Int)) (gE (maxI :: vs) (j : Int))).getD default) rfl rfl Try.underlying73 (keyOk_k2 fq_75) (.t rfl) (.t rfl) (.t rfl) (.n U3) ⟨.all, ?_⟩
        refine At.nil ?_
        refine At.bN ?_
        refine At.tN ?_
        refine At.plain [(false, 0), (false, 1)] rfl ?_
        refine At.e rfl rfl rfl rfl .all (R.addI (.t rfl) .c (fun hg => by omega)) ?_
        refine At.e rfl rfl rfl rfl .all (R.move (.t rfl)) ?_
        refine At.nil ?_
        refine At.tN ?_
        exact At.again2 (j + 1) (aput m2 (gE (keysP l) (i : Int), ((latF l (gE (keysP l) (i : Int)) (gE (maxI :: vs) (j : Int))).getD default).ver) ((latF l (gE (keysP l) (i : Int)) (gE (maxI :: vs) (j : Int))).getD default)) ⟨by omega, mapV_yes (by omega) hj2 (by assumption)⟩ (by omega) (.cons rfl (.cons rfl (.cons rfl (.cons rfl (.cons rfl (.cons rfl (.cons rfl (.cons rfl (.cons rfl (.cons rfl .nil)))))))))) (by ((repeat (first | exact List.Sublist.refl _ | exact List.nil_sublist _ | apply List.Sublist.cons_cons | apply List.Sublist.cons)))) rfl
      · skip
        refine At.skip ?_
        refine At.bN ?_
        refine At.tN ?_
        refine At.plain [(false, 0), (false, 1)] rfl ?_
        refine At.e rfl rfl rfl rfl .all (R.addI (.t rfl) .c (fun hg => by omega)) ?_
        refine At.e rfl rfl rfl rfl .all (R.move (.t rfl)) ?_
        refine At.nil ?_
        refine At.tN ?_
        exact At.again2 (j + 1) (m2) ⟨by omega, mapV_no (by omega) hj2 (by assumption)⟩ (by omega) (.cons rfl (.cons rfl (.cons rfl (.cons rfl (.cons rfl (.cons rfl (.cons rfl (.cons rfl (.cons rfl (.cons rfl .nil)))))))))) (by ((repeat (first | exact List.Sublist.refl _ | exact List.nil_sublist _ | apply List.Sublist.cons_cons | apply List.Sublist.cons)))) rfl
    · skip
      refine At.exit ?_
      refine At.tE ?_
      refine At.tE ?_
      refine At.bE ?_
      refine At.bN ?_
      refine At.tN ?_
      refine At.plain [(false, 0), (false, 1)] rfl ?_
      refine At.e rfl rfl rfl rfl .all (R.addI (.t rfl) .c (fun hg => by omega)) ?_
      refine At.e rfl rfl rfl rfl .all (R.move (.t rfl)) ?_
      refine At.nil ?_
      refine At.tN ?_
      exact At.again2 (i + 1) (m2) ⟨by omega, mapK_step (by omega) hi2 (by omega) hj2⟩ (by omega) (.cons rfl (.cons rfl (.cons rfl (.cons rfl (.cons rfl (.cons rfl .nil)))))) (by ((repeat (first | exact List.Sublist.refl _ | exact List.nil_sublist _ | apply List.Sublist.cons_cons | apply List.Sublist.cons)))) rfl
  · skip
    refine At.exit ?_
    refine At.tE ?_
    refine At.tE ?_
    refine At.bE ?_
    refine At.tN ?_
    refine At.seq ?_
    refine At.plain [(false, 0), (false, 1), (false, 2), (false, 3), (false, 4)] rfl ?_
    refine At.e rfl rfl rfl rfl .all (R.move (.t rfl)) ?_
    refine At.callP (fst := []) (cap := []) rfl rfl rfl Ev.f (.cons (.t rfl) .nil) rfl (c_Values (b := b1)) (fun _ h => nomatch h) (fun v N' H' hR => ?_); obtain ⟨bm, rfl, rfl, rfl⟩ := hR; refine ⟨rfl, .all, ?_⟩
    refine At.callP (fst := []) (cap := []) rfl rfl rfl Ev.f (.cons (.t rfl) .nil) rfl (c_collect (bm := bm) (b := b1) (ml := m) hmN) (Rds.blk (.st M4) (Rds.blk (.st M2) .nil)).all (fun v N' H' hR => ?_); obtain ⟨xs, hxs, rfl, rfl⟩ := hR; have hxl := mapK_len hxs hi2; refine ⟨rfl, .all, ?_⟩
    refine At.callRF rfl rfl rfl (.cons (.t rfl) .nil) (by (exact .cons (by (exact wS M2)) .nil)) (c_Sort (by omega)) (fun v4 => ⟨.all, ?_⟩)
    refine At.e rfl rfl rfl rfl .all (R.assign (.t rfl)) ?_
    refine At.nil ?_
    refine At.tN ?_
    refine At.ret ?_
    exact At.final (N' := [rowE iK 43 v4 (sortF xs)]) rfl (.t rfl) (by ((repeat (first | exact List.Sublist.refl _ | exact List.nil_sublist _ | apply List.Sublist.cons_cons | apply List.Sublist.cons)))) (⟨by rw [keep_eq hW hxs hi2 (by omega)], rfl⟩)

end Go.Proofs.Ytejpanipdjknjaa
