/- G7 -/
import Derived.Test.YtejpanipdjknjaaG6
import Derived.Test.YtejpanipdjknjaaRng
namespace Go.Proofs.Ytejpanipdjknjaa
open Go Go.RowKit
set_option maxRecDepth 10000
set_option linter.unusedVariables false
theorem bt_66 : buildTab Try.prog 66 = some (#[.int .i64 0, .int .i64 0], [(0, 1), (1, 1)]) := by kernel_rfl
theorem fq_66 : flatQ Try.prog 66 = some [true, true] := by kernel_rfl
theorem ze_22 : (Try.prog.info? 22).bind (·.zero) = some (.slice none 0 0) := by kernel_rfl
theorem ze_3 : (Try.prog.info? 3).bind (·.zero) = some (.int .i64 0) := by kernel_rfl

theorem c_Split {u : Value} {l : List Itm} {cells : Int} (hL : l.length ≤ 1000) : Fn Try.prog 17 [u, .int .i64 cells] [rdE iK u l] [] (IsG 22 43 (splitK (min (max cells 2) 16 / 2) l (keysP l))) := by
  refine Fn.enter Try.func17 (by kernel_rfl) rfl (n := 112) rfl rfl (fun w => ?_)
  refine At.len (v := u) (by (exact rS M0)) (fun hl1 => ?_)
  have hkl := keysP_len l
  refine At.seq ?_
  refine At.plain [(false, 0)] rfl ?_
  refine At.e rfl rfl rfl rfl .all (R.assign .c) ?_
  refine At.nil ?_
  refine At.tN ?_
  refine At.seq ?_
  refine At.plain [(false, 0), (false, 1), (false, 2), (false, 3), (false, 4)] rfl ?_
  refine At.e rfl rfl rfl rfl .all (R.move (.t rfl)) ?_
  refine At.e rfl rfl rfl rfl .all (R.max2 (.t rfl) .c) ?_
  refine At.e rfl rfl rfl rfl .all (R.min2 (.t rfl) .c) ?_
  refine At.e rfl rfl rfl rfl .all (R.quoI (.t rfl) .c (fun hg => by omega)) ?_
  refine At.e rfl rfl rfl rfl .all (R.assign (.t rfl)) ?_
  refine At.nil ?_
  refine At.tN ?_
  refine At.seq ?_
  refine At.plain [(false, 0), (false, 1)] rfl ?_
  refine At.makeMap kfN vfI rfl rfl rfl (fun b1 hb1 => ⟨.all, ?_⟩)
  refine At.e rfl rfl rfl rfl .all (R.assign (.t rfl)) ?_
  refine At.nil ?_
  refine At.tN ?_
  refine At.seq ?_
  refine At.plain [(false, 0), (false, 1)] rfl ?_
  refine At.lit (k := zK) rfl rfl rfl Try.underlying32 et_3 (.cons .c .nil) (.cons rfl .nil) rfl rfl rfl (fun v1 => ⟨.all, ?_⟩)
  refine At.e rfl rfl rfl rfl .all (R.assign (.t rfl)) ?_
  refine At.nil ?_
  refine At.tN ?_
  refine At.seq ?_
  refine At.seq ?_
  refine At.plain [(false, 0), (false, 1), (false, 2), (false, 3)] rfl ?_
  refine At.e rfl rfl rfl rfl .all (R.move (.t rfl)) ?_
  refine At.callRF rfl rfl rfl (.cons (.t rfl) .nil) (by (exact .cons (by (exact rS M0)) .nil)) (c_Keys (by omega)) (fun v2 => ⟨.all, ?_⟩)
  refine At.e rfl rfl rfl rfl .all (R.lenRd Try.underlying32 (.t rfl) (by exact wS M1)) ?_
  refine At.e rfl rfl rfl rfl .all (R.move .c) ?_
  refine At.nil ?_
  refine At.tN ?_
  refine At.block ?_
  refine At.loop4 (fun (i : Nat) (G : List (List Itm)) (m : List ((Int × Int) × Itm)) (vz : Value) => i ≤ (keysP l).length ∧ G = splitK (min (max cells 2) 16 / 2) l ((keysP l).take i) ∧ MapG m G ∧ 0 < G.length ∧ G.length ≤ i + 1 ∧ (∀ g ∈ G, g.length ≤ 1000 * i)) (fun (i : Nat) (G : List (List Itm)) (m : List ((Int × Int) × Itm)) (vz : Value) => (keysP l).length - i) (fun (i : Nat) (G : List (List Itm)) (m : List ((Int × Int) × Itm)) (vz : Value) => [(0, true, u), (5, true, .int .i64 (min (max cells 2) 16 / 2)), (6, true, .map (some b1)), (7, true, vz), (25, true, v2), (26, true, .int .i64 (keysP l).length), (27, true, .int .i64 i)]) (fun (i : Nat) (G : List (List Itm)) (m : List ((Int × Int) × Itm)) (vz : Value) => [rowE zK 3 v2 (keysP l), rowE zK 3 vz (szs G), mapE kfN vfI b1 m]) (fun (i : Nat) (G : List (List Itm)) (m : List ((Int × Int) × Itm)) (vz : Value) => []) (0) ([[]]) ([]) (v1) ⟨Nat.zero_le _, rfl, mapG_nil, by simp, by simp, by simp⟩ (.cons rfl (.cons rfl (.cons rfl (.cons rfl (.cons rfl (.cons rfl (.cons rfl .nil))))))) (by (exact List.Sublist.refl _)) rfl (fun i G m vz hi => ?_)
  obtain ⟨hi1, hi2, hi3, hi4, hi5, hi6⟩ := hi; have hsl := szs_len G; have hfl : ∀ g ∈ G, g.length ≤ 1000000 := fun g hg => (by have := hi6 g hg; omega); have hlast := hfl _ (gE_mem' (l := G) (j := ((G.length - 1 : Nat) : Int)) (by omega)); have hsa := szs_at G ((G.length - 1 : Nat) : Int); have hol := own_le l (gE (keysP l) (i : Int))
  refine At.seq ?_
  refine At.plain [(false, 0)] rfl ?_
  refine At.e rfl rfl rfl rfl .all (R.lss (.t rfl) (.t rfl)) ?_
  refine At.nil ?_
  refine At.tN ?_
  refine At.seq ?_
  refine At.condD (.t rfl) (fun c1 => ?_) (fun c1 => ?_)
  · skip
    refine At.skip ?_
    refine At.tN ?_
    refine At.seq ?_
    refine At.block ?_
    refine At.seq ?_
    refine At.plain [(false, 0), (false, 1), (false, 2), (false, 3)] rfl ?_
    refine At.e rfl rfl rfl rfl .all (R.indexRd Try.underlying32 sz_3 (.t rfl) (by exact wS M1) (.t rfl) (fun hg => (by omega))) ?_
    refine At.e rfl rfl rfl rfl .all (R.loadRd Try.underlying3 rfl (.t rfl) (by exact wS M1) (fun hg => by exact Ek.get0 rfl (by omega))) ?_
    refine At.alloc rfl rfl rfl ze_3 (fun b2 hb2 => ⟨.all, ?_⟩)
    refine At.st1 rfl rfl sz_3 (.t rfl) (.t rfl) rfl rfl (.n U0) ⟨.all, ?_⟩
    refine At.nil ?_
    refine At.tN ?_
    refine At.seq ?_
    refine At.re (N' := [.blk b2 (.cells #[.int .i64 (gE (keysP l) (i : Int))] 3), rowE zK 3 v2 (keysP l), rowE zK 3 vz (szs G), mapE kfN vfI b1 m]) rfl ?_
    refine At.plain [(false, 0), (false, 1), (false, 2), (false, 3), (false, 4)] rfl ?_
    refine At.e rfl rfl rfl rfl .all (R.move (.t rfl)) ?_
    refine At.callRF rfl rfl rfl (.cons (.t rfl) .nil) (by (exact .cons (by (exact rS M0)) .nil)) (c_Clone (by omega)) (fun v3 => ⟨.all, ?_⟩)
    refine At.e rfl rfl rfl rfl .all (R.makeFunc .nil (.cons (.t rfl) .nil)) ?_
    refine At.callHX (fst := []) (cap := []) rfl rfl rfl Ev.f (.cons (.t rfl) (.cons (.t rfl) .nil)) rfl (by (exact .blk (.st M2) .nil)) (c_del (l := l) (key := (gE (keysP l) (i : Int))) (bk := b2) (by omega)) (by ((refine fun _ h => h.apart2 (.inr ?_); ((repeat (first | exact List.Sublist.refl _ | exact List.nil_sublist _ | apply List.Sublist.cons_cons | apply List.Sublist.cons)) <;> fail)))) (by (exact M0)) (fun _ => by (exact .n U0)) (fun _ h => h) (fun v4 hv4 => ⟨.all, ?_⟩)
    refine At.e rfl rfl rfl rfl .all (R.assign (.t rfl)) ?_
    refine At.nil ?_
    refine At.tN ?_
    refine At.seq ?_
    refine At.plain [(false, 0), (false, 1), (false, 2), (false, 3)] rfl ?_
    refine At.e rfl rfl rfl rfl .all (R.move (.t rfl)) ?_
    refine At.e rfl rfl rfl rfl .all (R.lenRd Try.underlying32 (.t rfl) (by exact wS M4)) ?_
    refine At.e rfl rfl rfl rfl .all (R.as (R.subI (.t rfl) .c (fun hg => by omega)) (fun _ => congrArg (Value.int .i64) (by rw [szs_len]; omega : ((szs G).length : Int) - 1 = ((G.length - 1 : Nat) : Int)))) ?_
    refine At.e rfl rfl rfl rfl .all (R.assign (.t rfl)) ?_
    refine At.nil ?_
    refine At.tN ?_
    refine At.seq ?_
    refine At.seq ?_
    refine At.plain [(false, 0), (false, 1), (false, 2), (false, 3), (false, 4), (false, 5), (false, 6), (false, 7), (false, 8), (false, 9), (false, 10), (false, 11), (false, 12), (false, 13), (false, 14), (false, 15)] rfl ?_
    refine At.e rfl rfl rfl rfl .all (R.move (.t rfl)) ?_
    refine At.e rfl rfl rfl rfl .all (R.move (.t rfl)) ?_
    refine At.e rfl rfl rfl rfl .all (R.indexRd Try.underlying32 sz_3 (.t rfl) (by exact wS M4) (.t rfl) (fun hg => (by omega))) ?_
    refine At.e rfl rfl rfl rfl .all (R.loadRd Try.underlying3 rfl (.t rfl) (by exact wS M4) (fun hg => by exact Ek.get0 rfl (by omega))) ?_
    refine At.e rfl rfl rfl rfl .all (R.gtr (.t rfl) .c) ?_
    refine At.e rfl rfl rfl rfl .all (R.move (.t rfl)) ?_
    refine At.e rfl rfl rfl rfl .all (R.move (by exact .t rfl)) ?_
    refine At.e rfl rfl rfl rfl .all (R.move (by exact .t rfl)) ?_
    refine At.e rfl rfl rfl rfl .all (R.indexRd Try.underlying32 sz_3 (by exact .s rfl) (by exact wS M4) (by exact .s rfl) (fun hg => (by omega))) ?_
    refine At.e rfl rfl rfl rfl .all (R.loadRd Try.underlying3 rfl (by exact .s rfl) (by exact wS M4) (fun hg => by exact Ek.get0 rfl (by omega))) ?_
    refine At.e rfl rfl rfl rfl .all (R.move (by exact .t rfl)) ?_
    refine At.e rfl rfl rfl rfl .all (R.lenRd Try.underlying22 (by exact .s rfl) (by exact wS M1)) ?_
    refine At.e rfl rfl rfl rfl .all (R.addI (by exact .s rfl) (by exact .s rfl) (fun hg => by omega)) ?_
    refine At.e rfl rfl rfl rfl .all (R.move (by exact .t rfl)) ?_
    refine At.e rfl rfl rfl rfl .all (R.gtr (by exact .s rfl) (by exact .s rfl)) ?_
    refine At.e rfl rfl rfl rfl .all (R.pickAnd (.t rfl) rfl (by (simp_all; done))) ?_
    refine At.nil ?_
    refine At.tN ?_
    refine At.cut3 (fun (G2 : List (List Itm)) (vz2 : Value) (mm : Nat) => G2 = openG (min (max cells 2) 16 / 2) G (ownF l (gE (keysP l) (i : Int))).length ∧ G2.length = mm + 1 ∧ G2.length ≤ G.length + 1) (fun (G2 : List (List Itm)) (vz2 : Value) (mm : Nat) => [(0, true, u), (5, true, .int .i64 (min (max cells 2) 16 / 2)), (6, true, .map (some b1)), (7, true, vz2), (25, true, v2), (26, true, .int .i64 (keysP l).length), (27, true, .int .i64 i), (10, true, v4), (11, true, .int .i64 mm)]) (fun (G2 : List (List Itm)) (vz2 : Value) (mm : Nat) => [rowE iK 43 v4 (ownF l (gE (keysP l) (i : Int))), rowE zK 3 v2 (keysP l), rowE zK 3 vz2 (szs G2), mapE kfN vfI b1 m]) (fun (G2 : List (List Itm)) (vz2 : Value) (mm : Nat) => []) ?_ (fun G2 vz2 mm hi => ?_)
    · skip
      refine At.cond (.t rfl) (fun c2 => ?_) (fun c2 => ?_)
      · skip
        refine At.seq ?_
        refine At.plain [(false, 0), (false, 1), (false, 2), (false, 3)] rfl ?_
        refine At.e rfl rfl rfl rfl .all (R.move (.t rfl)) ?_
        refine At.lit (k := zK) rfl rfl rfl Try.underlying32 et_3 (.cons .c .nil) (.cons rfl .nil) rfl rfl rfl (fun v5 => ⟨.all, ?_⟩)
        refine At.app (k := zK) rfl rfl rfl Try.underlying32 et_3 (.t rfl) (.t rfl) (fun _ => by (exact U4)) (by exact wS M1) (by (simp <;> omega)) (fun v6 => ⟨.all, ?_⟩)
        refine At.e rfl rfl rfl rfl .all (R.assign (.t rfl)) ?_
        refine At.nil ?_
        refine At.tN ?_
        refine At.plain [(false, 0), (false, 1), (false, 2)] rfl ?_
        refine At.e rfl rfl rfl rfl .all (R.move (.t rfl)) ?_
        refine At.e rfl rfl rfl rfl .all (R.addI (.t rfl) .c (fun hg => by omega)) ?_
        refine At.e rfl rfl rfl rfl .all (R.assign (.t rfl)) ?_
        refine At.nil ?_
        simp only [Bool.and_eq_true, decide_eq_true_eq] at c2
        refine At.reRow (k := zK) (v := v6) (xs' := szs (openG (min (max cells 2) 16 / 2) G (ownF l (gE (keysP l) (i : Int))).length)) (by (exact U4)) (szs_yes (m := G.length - 1) (by omega) c2) ?_
        refine At.tN ?_
        exact At.mid3 (openG (min (max cells 2) 16 / 2) G (ownF l (gE (keysP l) (i : Int))).length) (v6) (G.length) ⟨rfl, (openG_yes' (m := G.length - 1) (by omega) c2).trans (by omega), by rw [openG_yes' (m := G.length - 1) (by omega) c2]; omega⟩ (.cons rfl (.cons rfl (.cons rfl (.cons rfl (.cons rfl (.cons rfl (.cons rfl (.cons rfl (.cons (congrArg (fun z => some (true, Value.int .i64 z)) (by omega)) .nil))))))))) (by (apply List.Sublist.cons; apply List.Sublist.cons_cons; apply List.Sublist.cons; exact List.Sublist.refl _)) rfl
      · skip
        refine At.skip ?_
        have hno := openG_no' (h := min (max cells 2) 16 / 2) (G := G) (n := (ownF l (gE (keysP l) (i : Int))).length) (m := G.length - 1) (by omega) (fun h => by simp [h.1] at c2; omega)
        refine At.reRow (k := zK) (v := vz) (xs' := szs (openG (min (max cells 2) 16 / 2) G (ownF l (gE (keysP l) (i : Int))).length)) (by (exact U3)) (by rw [hno]) ?_
        refine At.tN ?_
        exact At.mid3 (openG (min (max cells 2) 16 / 2) G (ownF l (gE (keysP l) (i : Int))).length) (vz) (G.length - 1) ⟨rfl, by rw [hno]; omega, by rw [hno]; omega⟩ (.cons rfl (.cons rfl (.cons rfl (.cons rfl (.cons rfl (.cons rfl (.cons rfl (.cons rfl (.cons rfl .nil))))))))) (by (apply List.Sublist.cons_cons; apply List.Sublist.cons; exact List.Sublist.refl _)) rfl
    · obtain ⟨hm1, hm2, hm3⟩ := hi; have hl2 : (lastG G2).length ≤ 1000000 := (by rw [hm1]; exact open_last hi4 hfl)
      refine At.seq ?_
      refine At.plain [(false, 0), (false, 1), (false, 2)] rfl ?_
      refine At.e rfl rfl rfl rfl .all (R.move (.t rfl)) ?_
      refine At.e rfl rfl rfl rfl .all (R.lenRd Try.underlying22 (.t rfl) (by exact wS M1)) ?_
      refine At.e rfl rfl rfl rfl .all (R.move .c) ?_
      refine At.nil ?_
      refine At.tN ?_
      refine At.block ?_
      refine At.re (N' := [rowE iK 43 v4 (ownF l (gE (keysP l) (i : Int))), rowE zK 3 v2 (keysP l), rowE zK 3 vz2 (szs (putG G2 ((ownF l (gE (keysP l) (i : Int))).take 0))), mapE kfN vfI b1 m]) (by rw [List.take_zero, putG_nil (by omega)]) ?_
      refine At.loop2 (fun (j : Nat) (m2 : List ((Int × Int) × Itm)) => j ≤ (ownF l (gE (keysP l) (i : Int))).length ∧ MapG m2 (putG G2 ((ownF l (gE (keysP l) (i : Int))).take j))) (fun (j : Nat) (m2 : List ((Int × Int) × Itm)) => (ownF l (gE (keysP l) (i : Int))).length - j) (fun (j : Nat) (m2 : List ((Int × Int) × Itm)) => [(0, true, u), (5, true, .int .i64 (min (max cells 2) 16 / 2)), (6, true, .map (some b1)), (7, true, vz2), (25, true, v2), (26, true, .int .i64 (keysP l).length), (27, true, .int .i64 i), (11, true, .int .i64 mm), (59, true, v4), (60, true, .int .i64 (ownF l (gE (keysP l) (i : Int))).length), (61, true, .int .i64 j)]) (fun (j : Nat) (m2 : List ((Int × Int) × Itm)) => [rowE iK 43 v4 (ownF l (gE (keysP l) (i : Int))), rowE zK 3 v2 (keysP l), rowE zK 3 vz2 (szs (putG G2 ((ownF l (gE (keysP l) (i : Int))).take j))), mapE kfN vfI b1 m2]) (fun (j : Nat) (m2 : List ((Int × Int) × Itm)) => []) (0) (m) ⟨Nat.zero_le _, by rw [List.take_zero, putG_nil (by omega), hm1]; exact mapG_open hi3⟩ (.cons rfl (.cons rfl (.cons rfl (.cons rfl (.cons rfl (.cons rfl (.cons rfl (.cons rfl (.cons rfl (.cons rfl (.cons rfl .nil))))))))))) (by (exact List.Sublist.refl _)) rfl (fun j m2 hi => ?_)
      obtain ⟨hj1, hj2⟩ := hi; have hpl : (szs (putG G2 ((ownF l (gE (keysP l) (i : Int))).take j))).length = mm + 1 := (by rw [szs_len, put_len1 hm2]); have hps := put_size (a := (ownF l (gE (keysP l) (i : Int))).take j) hm2; have htl : ((ownF l (gE (keysP l) (i : Int))).take j).length = j := (by rw [List.length_take]; omega)
      refine At.seq ?_
      refine At.plain [(false, 0)] rfl ?_
      refine At.e rfl rfl rfl rfl .all (R.lss (.t rfl) (.t rfl)) ?_
      refine At.nil ?_
      refine At.tN ?_
      refine At.seq ?_
      refine At.condD (.t rfl) (fun c3 => ?_) (fun c3 => ?_)
      · skip
        refine At.skip ?_
        refine At.tN ?_
        refine At.seq ?_
        refine At.block ?_
        refine At.seq ?_
        refine At.plain [(false, 0), (false, 1), (false, 2), (false, 3)] rfl ?_
        refine At.e rfl rfl rfl rfl .all (R.indexRd Try.underlying22 sz_43 (.t rfl) (by exact wS M1) (.t rfl) (fun hg => (by omega))) ?_
        refine At.e rfl rfl rfl rfl .all (R.loadRdAgg (us := iK.enc _) Try.underlying43 rfl sz_43 (.t rfl) (by exact wS M1) (fun hg => (by omega)) (fun hg => by exact Ek.getA (by omega))) ?_
        refine At.alloc rfl rfl rfl ze_43 (fun b3 hb3 => ⟨.all, ?_⟩)
        refine At.stN rfl rfl sz_43 (.t rfl) (.t rfl) rfl rfl rfl (.n U0) ⟨.all, ?_⟩
        refine At.nil ?_
        refine At.tN ?_
        refine At.seq ?_
        refine At.drawL ([rowE zK 3 vz2 (szs (putG G2 ((ownF l (gE (keysP l) (i : Int))).take j)))]) [(true, 0), (true, 1), (true, 2), (true, 3), (true, 4)] [(true, 5), (true, 6), (true, 7)] [(false, 8)] (by (exact keepOf (by (apply List.Sublist.cons; apply List.Sublist.cons; apply List.Sublist.cons; apply List.Sublist.cons; apply List.Sublist.cons_cons; exact List.nil_sublist _)))) (by kernel_rfl) (by kernel_rfl) ?_
        refine At.s rfl rfl rfl rfl (Cl.kept (by (exact keepOf (by (apply List.Sublist.cons; apply List.Sublist.cons; apply List.Sublist.cons; apply List.Sublist.cons; apply List.Sublist.cons_cons; exact List.nil_sublist _))))) (R.move (.t rfl)) ?_
        refine At.s rfl rfl rfl rfl (Cl.kept (by (exact keepOf (by (apply List.Sublist.cons; apply List.Sublist.cons; apply List.Sublist.cons; apply List.Sublist.cons; apply List.Sublist.cons_cons; exact List.nil_sublist _))))) (R.move (.t rfl)) ?_
        refine At.s rfl rfl rfl rfl (Cl.kept (by (exact keepOf (by (apply List.Sublist.cons; apply List.Sublist.cons; apply List.Sublist.cons; apply List.Sublist.cons; apply List.Sublist.cons_cons; exact List.nil_sublist _))))) (R.move (.t rfl)) ?_
        refine At.s rfl rfl rfl rfl (Cl.kept (by (exact keepOf (by (apply List.Sublist.cons; apply List.Sublist.cons; apply List.Sublist.cons; apply List.Sublist.cons; apply List.Sublist.cons_cons; exact List.nil_sublist _))))) (R.move (.t rfl)) ?_
        refine At.s rfl rfl rfl rfl (Cl.kept (by (exact keepOf (by (apply List.Sublist.cons; apply List.Sublist.cons; apply List.Sublist.cons; apply List.Sublist.cons; apply List.Sublist.cons_cons; exact List.nil_sublist _))))) (R.indexRd Try.underlying32 sz_3 (.t rfl) (by exact wK M0) (.t rfl) (fun hg => (by omega))) ?_
        refine At.stage (Cl.kept fun _ h => h) ?_
        refine At.s rfl rfl rfl rfl (Cl.kept fun _ h => h) (R.loadRd Try.underlying3 rfl (.t rfl) (by exact wK M4) (fun hg => by exact Ek.get0 rfl (by omega))) ?_
        refine At.s rfl rfl rfl rfl (Cl.kept fun _ h => h) (R.build bt_66 (.cons (.t rfl) (.cons (.t rfl) .nil)) (.cons rfl (.cons rfl .nil)) rfl) ?_
        refine At.s rfl rfl rfl rfl (Cl.kept fun _ h => h) (R.loadAgg (vs := [_, _, _]) Try.underlying43 rfl sz_43 (.t rfl) (by exact csK M1 ⟨rfl, rfl, rfl, trivial⟩)) ?_
        refine At.stage (Cl.kept (by (exact keepOf (by (apply List.Sublist.cons; apply List.Sublist.cons; apply List.Sublist.cons; apply List.Sublist.cons; apply List.Sublist.cons_cons; exact List.nil_sublist _))))) ?_
        refine At.mapUp (kf := kfN) (vf := vfI) (ml := m2) (k := ((mm : Int), gE (szs (putG G2 ((ownF l (gE (keysP l) (i : Int))).take j))) (mm : Int))) (v := gE (ownF l (gE (keysP l) (i : Int))) (j : Int)) rfl rfl Try.underlying62 (keyOk_k2 fq_66) (.t rfl) (.t rfl) (.t rfl) (.n U4) ⟨(Cl.kept (by (exact keepOf (by (apply List.Sublist.cons; apply List.Sublist.cons; apply List.Sublist.cons; apply List.Sublist.cons; apply List.Sublist.cons_cons; exact List.nil_sublist _))))), ?_⟩
        refine At.nil ?_
        refine At.tN ?_
        refine At.rowForm (v := vz2) (by (exact M4)) (by rw [hpl]; omega) (fun gz capz hvz => ?_)
        subst hvz
        refine At.plain [(false, 0), (false, 1), (false, 2), (false, 3), (false, 4), (false, 5), (false, 6)] rfl ?_
        refine At.e rfl rfl rfl rfl .all (R.move (.t rfl)) ?_
        refine At.e rfl rfl rfl rfl .all (R.move (.t rfl)) ?_
        refine At.e rfl rfl rfl rfl .all (R.indexRd Try.underlying32 sz_3 (.t rfl) (by exact wS M4) (.t rfl) (fun hg => (by omega))) ?_
        refine At.e rfl rfl rfl rfl .all (R.loadRd Try.underlying3 rfl (.t rfl) (by exact wS M4) (fun hg => by exact Ek.get0 rfl (by omega))) ?_
        refine At.e rfl rfl rfl rfl .all (R.addI (.t rfl) .c (fun hg => by omega)) ?_
        refine At.e rfl rfl rfl rfl .all (R.indexRd Try.underlying32 sz_3 (.t rfl) (by exact wS M4) (.t rfl) (fun hg => (by omega))) ?_
        refine At.stRow (k := zK) rfl rfl sz_3 (.t rfl) (.t rfl) rfl (.n U3) (by omega) (by omega) ⟨.all, ?_⟩
        refine At.nil ?_
        refine At.bN ?_
        refine At.tN ?_
        refine At.plain [(false, 0), (false, 1)] rfl ?_
        refine At.e rfl rfl rfl rfl .all (R.addI (.t rfl) .c (fun hg => by omega)) ?_
        refine At.e rfl rfl rfl rfl .all (R.move (.t rfl)) ?_
        refine At.nil ?_
        refine At.reSet (k := zK) (xs := (szs (putG G2 ((ownF l (gE (keysP l) (i : Int))).take j))).set ((mm : Int)).toNat (gE (szs (putG G2 ((ownF l (gE (keysP l) (i : Int))).take j))) (mm : Int) + 1)) (xs' := szs (putG G2 ((ownF l (gE (keysP l) (i : Int))).take (j + 1)))) (by (exact U3)) (by rw [take_snoc (by omega)]; exact szs_put hm2) (by rw [List.length_set]) ?_
        refine At.tN ?_
        exact At.again2 (j + 1) (aput m2 ((mm : Int), gE (szs (putG G2 ((ownF l (gE (keysP l) (i : Int))).take j))) (mm : Int)) (gE (ownF l (gE (keysP l) (i : Int))) (j : Int))) ⟨by omega, by rw [take_snoc (by omega)]; exact mapG_put hm2 hj2⟩ (by omega) (.cons rfl (.cons rfl (.cons rfl (.cons rfl (.cons rfl (.cons rfl (.cons rfl (.cons rfl (.cons rfl (.cons rfl (.cons rfl .nil))))))))))) (by (apply List.Sublist.cons; exact List.Sublist.refl _)) rfl
      · skip
        refine At.exit ?_
        refine At.tE ?_
        refine At.tE ?_
        refine At.bE ?_
        refine At.bN ?_
        refine At.tN ?_
        refine At.plain [(false, 0), (false, 1)] rfl ?_
        refine At.e rfl rfl rfl rfl .all (R.addI (.t rfl) .c (fun hg => by omega)) ?_
        refine At.e rfl rfl rfl rfl .all (R.move (.t rfl)) ?_
        refine At.nil ?_
        refine At.re (N' := [rowE iK 43 v4 (ownF l (gE (keysP l) (i : Int))), rowE zK 3 v2 (keysP l), rowE zK 3 vz2 (szs (putG G2 (ownF l (gE (keysP l) (i : Int))))), mapE kfN vfI b1 m2]) (by rw [List.take_of_length_le (by omega)]) ?_
        refine At.tN ?_
        exact At.again4 (i + 1) (putG G2 (ownF l (gE (keysP l) (i : Int)))) (m2) (vz2) ⟨by omega, by rw [hm1, hi2, splitK_step (by omega)]; rfl, by rw [List.take_of_length_le (by omega)] at hj2; exact hj2, by rw [put_len1 hm2]; omega, by rw [put_len1 hm2]; omega, by rw [hm1]; exact put_bd (by omega) hi6 (by omega)⟩ (by omega) (.cons rfl (.cons rfl (.cons rfl (.cons rfl (.cons rfl (.cons rfl (.cons rfl .nil))))))) (by (apply List.Sublist.cons; exact List.Sublist.refl _)) rfl
  · skip
    refine At.exit ?_
    refine At.tE ?_
    refine At.tE ?_
    refine At.bE ?_
    refine At.tN ?_
    refine At.seq ?_
    refine At.plain [(false, 0), (false, 1), (false, 2), (false, 3)] rfl ?_
    refine At.e rfl rfl rfl rfl .all (R.move (.t rfl)) ?_
    refine At.e rfl rfl rfl rfl .all (R.lenRd Try.underlying32 (.t rfl) (by exact wS M2)) ?_
    refine At.makeSl (k := sK) (z := ⟨.slice none 0 0, rfl⟩) rfl rfl rfl Try.underlying29 et_22 ze_22 rfl (.t rfl) (.t rfl) (by refine ⟨?_, ?_⟩ <;> first | omega | (simp; omega)) (fun v7 => ⟨.all, ?_⟩)
    refine At.e rfl rfl rfl rfl .all (R.assign (.t rfl)) ?_
    refine At.nil ?_
    refine At.tN ?_
    refine At.seq ?_
    refine At.seq ?_
    refine At.plain [(false, 0), (false, 1), (false, 2)] rfl ?_
    refine At.e rfl rfl rfl rfl .all (R.move (.t rfl)) ?_
    refine At.e rfl rfl rfl rfl .all (R.lenRd Try.underlying32 (.t rfl) (by exact wS M3)) ?_
    refine At.e rfl rfl rfl rfl .all (R.move .c) ?_
    refine At.nil ?_
    refine At.tN ?_
    refine At.block ?_
    refine At.weak (fun _ _ h => h) (N' := [rowE sK 22 v7 (List.replicate (szs G).length ⟨.slice none 0 0, rfl⟩), rowE zK 3 vz (szs G), mapE kfN vfI b1 m]) (by (apply List.Sublist.cons_cons; apply List.Sublist.cons; exact List.Sublist.refl _)) ?_
    refine At.segNil (k := iK) (E := 43) (A := [rowE sK 22 v7 (List.replicate (szs G).length ⟨.slice none 0 0, rfl⟩), rowE zK 3 vz (szs G), mapE kfN vfI b1 m]) G.length ?_
    refine At.reRow (k := sK) (v := v7) (xs' := (List.replicate G.length ((⟨.slice none 0 0, rfl⟩ : SV), ([] : List Itm))).map (·.1)) (by (exact U0)) (by simp) ?_
    refine At.loop3 (fun (gk : Nat) (gs : List (SV × List Itm)) (Vo : Value) => gk ≤ G.length ∧ gs.length = G.length ∧ gs.map (·.2) = G.take gk ++ List.replicate (G.length - gk) []) (fun (gk : Nat) (gs : List (SV × List Itm)) (Vo : Value) => G.length - gk) (fun (gk : Nat) (gs : List (SV × List Itm)) (Vo : Value) => [(6, true, .map (some b1)), (84, true, vz), (85, true, .int .i64 (szs G).length), (86, true, .int .i64 gk), (14, true, Vo)]) (fun (gk : Nat) (gs : List (SV × List Itm)) (Vo : Value) => rowE sK 22 Vo (gs.map (·.1)) :: rowE zK 3 vz (szs G) :: mapE kfN vfI b1 m :: seg iK 43 gs) (fun (gk : Nat) (gs : List (SV × List Itm)) (Vo : Value) => []) (0) (List.replicate G.length (⟨.slice none 0 0, rfl⟩, [])) (v7) ⟨Nat.zero_le _, by simp, by simp⟩ (.cons rfl (.cons rfl (.cons rfl (.cons rfl (.cons rfl .nil))))) (by (exact List.Sublist.refl _)) rfl (fun gk gs Vo hi => ?_)
    obtain ⟨hg1, hg2, hg3⟩ := hi; have hgl : (gs.map (·.1)).length = gs.length := List.length_map _
    refine At.seq ?_
    refine At.plain [(false, 0)] rfl ?_
    refine At.e rfl rfl rfl rfl .all (R.lss (.t rfl) (.t rfl)) ?_
    refine At.nil ?_
    refine At.tN ?_
    refine At.seq ?_
    refine At.condD (.t rfl) (fun c4 => ?_) (fun c4 => ?_)
    · skip
      refine At.skip ?_
      refine At.tN ?_
      refine At.seq ?_
      refine At.block ?_
      refine At.seq ?_
      refine At.plain [(false, 0), (false, 1), (false, 2), (false, 3), (false, 4)] rfl ?_
      refine At.e rfl rfl rfl rfl .all (R.move (.t rfl)) ?_
      refine At.e rfl rfl rfl rfl .all (R.indexRd Try.underlying32 sz_3 (.t rfl) (by exact wS M2) (.t rfl) (fun hg => (by omega))) ?_
      refine At.e rfl rfl rfl rfl .all (R.loadRd Try.underlying3 rfl (.t rfl) (by exact wS M2) (fun hg => by exact Ek.get0 rfl (by omega))) ?_
      refine At.e rfl rfl rfl rfl .all (R.assign (.t rfl)) ?_
      refine At.e rfl rfl rfl rfl .all (R.assign (.t rfl)) ?_
      refine At.nil ?_
      refine At.tN ?_
      refine At.seq ?_
      refine At.plain [(false, 0), (false, 1)] rfl ?_
      refine At.e rfl rfl rfl rfl .all (R.move (.t rfl)) ?_
      refine At.e rfl rfl rfl rfl .all (R.move .c) ?_
      refine At.nil ?_
      refine At.tN ?_
      refine At.block ?_
      refine At.loop3 (fun (ii : Nat) (gs2 : List (SV × List Itm)) (Vo2 : Value) => ii ≤ (gE G (gk : Int)).length ∧ gs2.length = G.length ∧ gs2.map (·.2) = G.take gk ++ (gE G (gk : Int)).take ii :: List.replicate (G.length - gk - 1) []) (fun (ii : Nat) (gs2 : List (SV × List Itm)) (Vo2 : Value) => (gE G (gk : Int)).length - ii) (fun (ii : Nat) (gs2 : List (SV × List Itm)) (Vo2 : Value) => [(6, true, .map (some b1)), (84, true, vz), (85, true, .int .i64 (szs G).length), (86, true, .int .i64 gk), (14, true, Vo2), (15, true, .int .i64 gk), (91, true, .int .i64 (gE (szs G) (gk : Int))), (92, true, .int .i64 ii)]) (fun (ii : Nat) (gs2 : List (SV × List Itm)) (Vo2 : Value) => rowE sK 22 Vo2 (gs2.map (·.1)) :: rowE zK 3 vz (szs G) :: mapE kfN vfI b1 m :: seg iK 43 gs2) (fun (ii : Nat) (gs2 : List (SV × List Itm)) (Vo2 : Value) => []) (0) (gs) (Vo) ⟨Nat.zero_le _, hg2, by rw [hg3]; exact laid_open (by omega)⟩ (.cons rfl (.cons rfl (.cons rfl (.cons rfl (.cons rfl (.cons rfl (.cons rfl (.cons rfl .nil)))))))) (by (exact List.Sublist.refl _)) rfl (fun ii gs2 Vo2 hi => ?_)
      obtain ⟨hk1, hk2, hk3⟩ := hi; have hkl2 : (gs2.map (·.1)).length = gs2.length := List.length_map _; have hsg := szs_at G (gk : Int); have hgm := hfl _ (gE_mem' (l := G) (j := (gk : Int)) (by omega)); have hla := laid_at (by omega) hk3; have hll : (gE gs2 (gk : Int)).2.length ≤ 1000000 := (by rw [hla, List.length_take]; omega)
      refine At.seq ?_
      refine At.plain [(false, 0)] rfl ?_
      refine At.e rfl rfl rfl rfl .all (R.lss (.t rfl) (.t rfl)) ?_
      refine At.nil ?_
      refine At.tN ?_
      refine At.seq ?_
      refine At.condD (.t rfl) (fun c5 => ?_) (fun c5 => ?_)
      · skip
        refine At.skip ?_
        refine At.tN ?_
        refine At.seq ?_
        refine At.block ?_
        refine At.seq ?_
        refine At.plain [(false, 0), (false, 1)] rfl ?_
        refine At.e rfl rfl rfl rfl .all (R.move (.t rfl)) ?_
        refine At.e rfl rfl rfl rfl .all (R.assign (.t rfl)) ?_
        refine At.nil ?_
        refine At.tN ?_
        refine At.rowForm (v := Vo2) (by (exact M1)) (by omega) (fun g cap hv => ?_)
        subst hv
        refine At.segOut (gs := gs2) (A := [rowE sK 22 (.slice (some ⟨g, 0, none⟩) (gs2.map (·.1)).length cap) (gs2.map (·.1)), rowE zK 3 vz (szs G), mapE kfN vfI b1 m]) (j := (gk : Int)) (by omega) ?_
        refine At.drawL ([mapE kfN vfI b1 m]) [(true, 0), (true, 1), (true, 2), (true, 3), (true, 4), (true, 6), (true, 7), (true, 8), (true, 9), (true, 10)] [(true, 5), (false, 11)] [(false, 12), (true, 13), (false, 14)] (by (exact keepOf (by (apply List.Sublist.cons; apply List.Sublist.cons; apply List.Sublist.cons; apply List.Sublist.cons; apply List.Sublist.cons_cons; exact List.nil_sublist _)))) (by kernel_rfl) (by kernel_rfl) ?_
        refine At.s rfl rfl rfl rfl (Cl.kept (by (exact keepOf (by (apply List.Sublist.cons; apply List.Sublist.cons; apply List.Sublist.cons; apply List.Sublist.cons; apply List.Sublist.cons_cons; exact List.nil_sublist _))))) (R.move (.t rfl)) ?_
        refine At.s rfl rfl rfl rfl (Cl.kept (by (exact keepOf (by (apply List.Sublist.cons; apply List.Sublist.cons; apply List.Sublist.cons; apply List.Sublist.cons; apply List.Sublist.cons_cons; exact List.nil_sublist _))))) (R.move (.t rfl)) ?_
        refine At.s rfl rfl rfl rfl (Cl.kept (by (exact keepOf (by (apply List.Sublist.cons; apply List.Sublist.cons; apply List.Sublist.cons; apply List.Sublist.cons; apply List.Sublist.cons_cons; exact List.nil_sublist _))))) (R.move (.t rfl)) ?_
        refine At.s rfl rfl rfl rfl (Cl.kept (by (exact keepOf (by (apply List.Sublist.cons; apply List.Sublist.cons; apply List.Sublist.cons; apply List.Sublist.cons; apply List.Sublist.cons_cons; exact List.nil_sublist _))))) (R.move (.t rfl)) ?_
        refine At.s rfl rfl rfl rfl (Cl.kept (by (exact keepOf (by (apply List.Sublist.cons; apply List.Sublist.cons; apply List.Sublist.cons; apply List.Sublist.cons; apply List.Sublist.cons_cons; exact List.nil_sublist _))))) (R.indexSlE Try.underlying29 sz_22 (.t rfl) (.t rfl) (fun hg => by omega)) ?_
        refine At.s rfl rfl rfl rfl (Cl.kept (by (exact keepOf (by (apply List.Sublist.cons; apply List.Sublist.cons; apply List.Sublist.cons; apply List.Sublist.cons; apply List.Sublist.cons_cons; exact List.nil_sublist _))))) (R.move (.t rfl)) ?_
        refine At.s rfl rfl rfl rfl (Cl.kept (by (exact keepOf (by (apply List.Sublist.cons; apply List.Sublist.cons; apply List.Sublist.cons; apply List.Sublist.cons; apply List.Sublist.cons_cons; exact List.nil_sublist _))))) (R.move (.t rfl)) ?_
        refine At.s rfl rfl rfl rfl (Cl.kept (by (exact keepOf (by (apply List.Sublist.cons; apply List.Sublist.cons; apply List.Sublist.cons; apply List.Sublist.cons; apply List.Sublist.cons_cons; exact List.nil_sublist _))))) (R.move (.t rfl)) ?_
        refine At.s rfl rfl rfl rfl (Cl.kept (by (exact keepOf (by (apply List.Sublist.cons; apply List.Sublist.cons; apply List.Sublist.cons; apply List.Sublist.cons; apply List.Sublist.cons_cons; exact List.nil_sublist _))))) (R.build bt_66 (.cons (.t rfl) (.cons (.t rfl) .nil)) (.cons rfl (.cons rfl .nil)) rfl) ?_
        refine At.s rfl rfl rfl rfl (Cl.kept (by (exact keepOf (by (apply List.Sublist.cons; apply List.Sublist.cons; apply List.Sublist.cons; apply List.Sublist.cons; apply List.Sublist.cons_cons; exact List.nil_sublist _))))) (R.as (R.lookup (kf := kfN) (vf := vfI) Try.underlying62 (keyOk_k2 fq_66) ze_43 (.t rfl) (.t rfl) (by exact Holds.kept M0)) (fun _ => agetV_at hi3 (by omega) (by omega))) ?_
        refine At.stage (Cl.kept fun _ h => h) ?_
        refine At.s rfl rfl rfl rfl (Cl.kept fun _ h => h) (R.loadRd Try.underlying22 rfl (.t rfl) (by exact wK M2) (fun hg => by exact segGet (by omega))) ?_
        refine At.lit (k := iK) rfl rfl rfl Try.underlying22 et_43 (.cons (.t rfl) .nil) (.cons rfl .nil) rfl rfl rfl (fun v8 => ⟨(Cl.kept (by (exact keepOf (by (apply List.Sublist.cons_cons; apply List.Sublist.cons; exact List.Sublist.refl _))))), ?_⟩)
        refine At.stage (Cl.kept (by (exact keepOf (by (apply List.Sublist.cons; apply List.Sublist.cons; apply List.Sublist.cons; apply List.Sublist.cons; apply List.Sublist.cons; apply List.Sublist.cons_cons; exact List.nil_sublist _))))) ?_
        refine At.app (k := iK) rfl rfl rfl Try.underlying22 et_43 (.t rfl) (.t rfl) (fun _ => by (exact U1)) (by exact wS M1) (by (simp <;> omega)) (fun v9 => ⟨(Cl.kept (by (exact keepOf (by (apply List.Sublist.cons; apply List.Sublist.cons; apply List.Sublist.cons; apply List.Sublist.cons; apply List.Sublist.cons; apply List.Sublist.cons_cons; exact List.nil_sublist _))))), ?_⟩)
        refine At.s rfl rfl rfl rfl (Cl.kept (by (exact keepOf (by (apply List.Sublist.cons; apply List.Sublist.cons; apply List.Sublist.cons; apply List.Sublist.cons; apply List.Sublist.cons; apply List.Sublist.cons_cons; exact List.nil_sublist _))))) (R.indexSlE Try.underlying29 sz_22 (.t rfl) (.t rfl) (fun hg => by omega)) ?_
        refine At.rowOne (v := v9) (by (exact M2)) (fun h1v => ?_)
        refine At.stSeg (gs := gs2) (xs := (gE gs2 (gk : Int)).2 ++ [(gE (gE G (gk : Int)) (ii : Int))]) rfl rfl sz_22 (.t rfl) (.t rfl) h1v (by omega) U2 ⟨(Cl.kept (by (exact keepOf (by (apply List.Sublist.cons; apply List.Sublist.cons; apply List.Sublist.cons; apply List.Sublist.cons; apply List.Sublist.cons; apply List.Sublist.cons_cons; exact List.nil_sublist _))))), ?_⟩
        refine At.nil ?_
        refine At.bN ?_
        refine At.tN ?_
        refine At.weak (fun _ _ h => h) (N' := rowE iK 43 v9 ((gE gs2 (gk : Int)).2 ++ [(gE (gE G (gk : Int)) (ii : Int))]) :: ([rowE sK 22 (.slice (some ⟨g, 0, none⟩) (gs2.map (·.1)).length cap) ((gs2.set ((gk : Int)).toNat (⟨v9, h1v⟩, (gE gs2 (gk : Int)).2 ++ [(gE (gE G (gk : Int)) (ii : Int))])).map (·.1)), rowE zK 3 vz (szs G), mapE kfN vfI b1 m] ++ seg iK 43 (gs2.eraseIdx ((gk : Int)).toNat))) (by (apply List.Sublist.cons; exact List.Sublist.refl _)) ?_
        refine At.segBack (A := [rowE sK 22 (.slice (some ⟨g, 0, none⟩) (gs2.map (·.1)).length cap) ((gs2.set ((gk : Int)).toNat (⟨v9, h1v⟩, (gE gs2 (gk : Int)).2 ++ [(gE (gE G (gk : Int)) (ii : Int))])).map (·.1)), rowE zK 3 vz (szs G), mapE kfN vfI b1 m]) (i := ((gk : Int)).toNat) (v := ⟨v9, h1v⟩) (xs := (gE gs2 (gk : Int)).2 ++ [(gE (gE G (gk : Int)) (ii : Int))]) (by omega) ?_
        refine At.plain [(false, 0), (false, 1)] rfl ?_
        refine At.e rfl rfl rfl rfl .all (R.addI (.t rfl) .c (fun hg => by omega)) ?_
        refine At.e rfl rfl rfl rfl .all (R.move (.t rfl)) ?_
        refine At.nil ?_
        refine At.tN ?_
        exact At.again3 (ii + 1) (gs2.set ((gk : Int)).toNat (⟨v9, h1v⟩, (gE gs2 (gk : Int)).2 ++ [(gE (gE G (gk : Int)) (ii : Int))])) ((.slice (some ⟨g, 0, none⟩) (gs2.map (·.1)).length cap)) ⟨by omega, by simp; omega, laid_step (by omega) (by omega) hk2 hk3⟩ (by omega) (.cons rfl (.cons rfl (.cons rfl (.cons rfl (.cons rfl (.cons rfl (.cons rfl (.cons rfl .nil)))))))) (by (exact List.Sublist.refl _)) rfl
      · skip
        refine At.exit ?_
        refine At.tE ?_
        refine At.tE ?_
        refine At.bE ?_
        refine At.bN ?_
        refine At.tN ?_
        refine At.plain [(false, 0), (false, 1)] rfl ?_
        refine At.e rfl rfl rfl rfl .all (R.addI (.t rfl) .c (fun hg => by omega)) ?_
        refine At.e rfl rfl rfl rfl .all (R.move (.t rfl)) ?_
        refine At.nil ?_
        refine At.tN ?_
        exact At.again3 (gk + 1) (gs2) (Vo2) ⟨by omega, hk2, by rw [hk3]; exact laid_shut (by omega) (by omega)⟩ (by omega) (.cons rfl (.cons rfl (.cons rfl (.cons rfl (.cons rfl .nil))))) (by (exact List.Sublist.refl _)) rfl
    · skip
      refine At.exit ?_
      refine At.tE ?_
      refine At.tE ?_
      refine At.bE ?_
      refine At.tN ?_
      refine At.seq ?_
      refine At.plain [(false, 0), (false, 1)] rfl ?_
      refine At.e rfl rfl rfl rfl .all (R.move (.t rfl)) ?_
      refine At.e rfl rfl rfl rfl .all (R.assign (.t rfl)) ?_
      refine At.nil ?_
      refine At.tN ?_
      refine At.ret ?_
      exact At.final (N' := rowE sK 22 Vo (gs.map (·.1)) :: seg iK 43 gs) rfl (.t rfl) (by (apply List.Sublist.cons_cons; apply List.Sublist.cons; apply List.Sublist.cons; exact List.Sublist.refl _)) (⟨gs, by rw [hg3, List.take_of_length_le (by omega), show G.length - gk = 0 by omega, hi2, List.take_of_length_le (by omega)]; simp, rfl, rfl⟩)

end Go.Proofs.Ytejpanipdjknjaa
