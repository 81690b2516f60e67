/- G4 -/
import Derived.Test.YtejpanipdjknjaaG3
namespace Go.Proofs.Ytejpanipdjknjaa
open Go Go.RowKit
set_option maxRecDepth 10000
set_option linter.unusedVariables false
theorem fo_40_0 : fieldOff? Try.prog 40 0 = some 0 := by kernel_rfl
theorem fo_40_1 : fieldOff? Try.prog 40 1 = some 1 := by kernel_rfl
theorem fo_40_2 : fieldOff? Try.prog 40 2 = some 2 := by kernel_rfl
theorem fo_40_3 : fieldOff? Try.prog 40 3 = some 3 := by kernel_rfl
theorem fo_40_4 : fieldOff? Try.prog 40 4 = some 4 := by kernel_rfl
theorem fo_40_5 : fieldOff? Try.prog 40 5 = some 5 := by kernel_rfl
theorem fo_40_6 : fieldOff? Try.prog 40 6 = some 6 := by kernel_rfl
theorem fo_40_7 : fieldOff? Try.prog 40 7 = some 7 := by kernel_rfl
theorem fq_61 : flatQ Try.prog 61 = some [true, true, true] := by kernel_rfl

theorem c_SameChunk {a0 a1 a2 a3 a4 a5 a6 a7 d0 d1 d2 d3 d4 d5 d6 d7 : Int} {u v : Value} {l k : List Cel} : Fn Try.prog 25 [.agg #[.int .i64 a0, .int .i64 a1, .int .i64 a2, .int .i64 a3, .int .i64 a4, .int .i64 a5, .int .i64 a6, .int .i64 a7, u], .agg #[.int .i64 d0, .int .i64 d1, .int .i64 d2, .int .i64 d3, .int .i64 d4, .int .i64 d5, .int .i64 d6, .int .i64 d7, v]] [rdE cellK u l, rdE cellK v k] [] (IsV (.bool (decide ((a0 = d0 ∧ a1 = d1 ∧ a2 = d2 ∧ a3 = d3 ∧ a4 = d4 ∧ a5 = d5 ∧ a6 = d6 ∧ a7 = d7) ∧ l = k)))) := by
  refine Fn.enter Try.func25 (by kernel_rfl) rfl (n := 87) rfl rfl (fun w => ?_)
  refine At.len (v := u) (by (exact rS M0)) (fun hl1 => ?_)
  refine At.len (v := v) (by (exact rS M1)) (fun hl2 => ?_)
  refine At.seq ?_
  refine At.plain [(false, 0), (false, 1), (false, 2)] rfl ?_
  refine At.box rfl rfl rfl (.t rfl) (fun b1 hb1 => ⟨.all, ?_⟩)
  refine At.box rfl rfl rfl (.t rfl) (fun b2 hb2 => ⟨.all, ?_⟩)
  refine At.e rfl rfl rfl rfl .all (R.assign .c) ?_
  refine At.nil ?_
  refine At.tN ?_
  refine At.seq ?_
  refine At.seq ?_
  refine At.plain [(false, 0), (false, 1), (false, 2), (false, 3), (false, 4), (false, 5), (false, 6), (false, 7), (false, 8), (false, 9), (false, 10), (false, 11), (false, 12), (false, 13), (false, 14), (false, 15), (false, 16), (false, 17), (false, 18), (false, 19), (false, 20), (false, 21), (false, 22), (false, 23), (false, 24), (false, 25), (false, 26), (false, 27), (false, 28), (false, 29), (false, 30), (false, 31), (false, 32), (false, 33), (false, 34), (false, 35), (false, 36), (false, 37), (false, 38), (false, 39), (false, 40), (false, 41), (false, 42), (false, 43), (false, 44), (false, 45), (false, 46), (false, 47), (false, 48), (false, 49), (false, 50), (false, 51), (false, 52), (false, 53), (false, 54), (false, 55), (false, 56), (false, 57), (false, 58), (false, 59), (false, 60), (false, 61), (false, 62)] rfl ?_
  refine At.e rfl rfl rfl rfl .all (R.fieldAddr fo_40_0 (.t rfl)) ?_
  refine At.e rfl rfl rfl rfl .all (R.load Try.underlying3 rfl (.t rfl) (by exact cS M3 rfl)) ?_
  refine At.e rfl rfl rfl rfl .all (R.fieldAddr fo_40_0 (.t rfl)) ?_
  refine At.e rfl rfl rfl rfl .all (R.load Try.underlying3 rfl (.t rfl) (by exact cS M2 rfl)) ?_
  refine At.e rfl rfl rfl rfl .all (R.neq (.t rfl) (.t rfl)) ?_
  refine At.e rfl rfl rfl rfl .all (R.move (.t rfl)) ?_
  refine At.e rfl rfl rfl rfl .all (R.fieldAddr fo_40_1 (by exact .t rfl)) ?_
  refine At.e rfl rfl rfl rfl .all (R.load Try.underlying3 rfl (by exact .s rfl) (by exact cS M3 rfl)) ?_
  refine At.e rfl rfl rfl rfl .all (R.fieldAddr fo_40_1 (by exact .t rfl)) ?_
  refine At.e rfl rfl rfl rfl .all (R.load Try.underlying3 rfl (by exact .s rfl) (by exact cS M2 rfl)) ?_
  refine At.e rfl rfl rfl rfl .all (R.neq (by exact .s rfl) (by exact .s rfl)) ?_
  refine At.e rfl rfl rfl rfl .all (R.pickOr (.t rfl) rfl (by simp_all)) ?_
  refine At.e rfl rfl rfl rfl .all (R.move (.t rfl)) ?_
  refine At.e rfl rfl rfl rfl .all (R.fieldAddr fo_40_2 (by exact .t rfl)) ?_
  refine At.e rfl rfl rfl rfl .all (R.load Try.underlying3 rfl (by exact .s rfl) (by exact cS M3 rfl)) ?_
  refine At.e rfl rfl rfl rfl .all (R.fieldAddr fo_40_2 (by exact .t rfl)) ?_
  refine At.e rfl rfl rfl rfl .all (R.load Try.underlying3 rfl (by exact .s rfl) (by exact cS M2 rfl)) ?_
  refine At.e rfl rfl rfl rfl .all (R.neq (by exact .s rfl) (by exact .s rfl)) ?_
  refine At.e rfl rfl rfl rfl .all (R.pickOr (.t rfl) rfl (by simp_all)) ?_
  refine At.e rfl rfl rfl rfl .all (R.move (.t rfl)) ?_
  refine At.e rfl rfl rfl rfl .all (R.fieldAddr fo_40_3 (by exact .t rfl)) ?_
  refine At.e rfl rfl rfl rfl .all (R.load Try.underlying3 rfl (by exact .s rfl) (by exact cS M3 rfl)) ?_
  refine At.e rfl rfl rfl rfl .all (R.fieldAddr fo_40_3 (by exact .t rfl)) ?_
  refine At.e rfl rfl rfl rfl .all (R.load Try.underlying3 rfl (by exact .s rfl) (by exact cS M2 rfl)) ?_
  refine At.e rfl rfl rfl rfl .all (R.neq (by exact .s rfl) (by exact .s rfl)) ?_
  refine At.e rfl rfl rfl rfl .all (R.pickOr (.t rfl) rfl (by simp_all)) ?_
  refine At.e rfl rfl rfl rfl .all (R.move (.t rfl)) ?_
  refine At.e rfl rfl rfl rfl .all (R.fieldAddr fo_40_4 (by exact .t rfl)) ?_
  refine At.e rfl rfl rfl rfl .all (R.load Try.underlying3 rfl (by exact .s rfl) (by exact cS M3 rfl)) ?_
  refine At.e rfl rfl rfl rfl .all (R.fieldAddr fo_40_4 (by exact .t rfl)) ?_
  refine At.e rfl rfl rfl rfl .all (R.load Try.underlying3 rfl (by exact .s rfl) (by exact cS M2 rfl)) ?_
  refine At.e rfl rfl rfl rfl .all (R.neq (by exact .s rfl) (by exact .s rfl)) ?_
  refine At.e rfl rfl rfl rfl .all (R.pickOr (.t rfl) rfl (by simp_all)) ?_
  refine At.e rfl rfl rfl rfl .all (R.move (.t rfl)) ?_
  refine At.e rfl rfl rfl rfl .all (R.fieldAddr fo_40_5 (by exact .t rfl)) ?_
  refine At.e rfl rfl rfl rfl .all (R.load Try.underlying3 rfl (by exact .s rfl) (by exact cS M3 rfl)) ?_
  refine At.e rfl rfl rfl rfl .all (R.fieldAddr fo_40_5 (by exact .t rfl)) ?_
  refine At.e rfl rfl rfl rfl .all (R.load Try.underlying3 rfl (by exact .s rfl) (by exact cS M2 rfl)) ?_
  refine At.e rfl rfl rfl rfl .all (R.neq (by exact .s rfl) (by exact .s rfl)) ?_
  refine At.e rfl rfl rfl rfl .all (R.pickOr (.t rfl) rfl (by simp_all)) ?_
  refine At.e rfl rfl rfl rfl .all (R.move (.t rfl)) ?_
  refine At.e rfl rfl rfl rfl .all (R.fieldAddr fo_40_6 (by exact .t rfl)) ?_
  refine At.e rfl rfl rfl rfl .all (R.load Try.underlying3 rfl (by exact .s rfl) (by exact cS M3 rfl)) ?_
  refine At.e rfl rfl rfl rfl .all (R.fieldAddr fo_40_6 (by exact .t rfl)) ?_
  refine At.e rfl rfl rfl rfl .all (R.load Try.underlying3 rfl (by exact .s rfl) (by exact cS M2 rfl)) ?_
  refine At.e rfl rfl rfl rfl .all (R.neq (by exact .s rfl) (by exact .s rfl)) ?_
  refine At.e rfl rfl rfl rfl .all (R.pickOr (.t rfl) rfl (by simp_all)) ?_
  refine At.e rfl rfl rfl rfl .all (R.move (.t rfl)) ?_
  refine At.e rfl rfl rfl rfl .all (R.fieldAddr fo_40_7 (by exact .t rfl)) ?_
  refine At.e rfl rfl rfl rfl .all (R.load Try.underlying3 rfl (by exact .s rfl) (by exact cS M3 rfl)) ?_
  refine At.e rfl rfl rfl rfl .all (R.fieldAddr fo_40_7 (by exact .t rfl)) ?_
  refine At.e rfl rfl rfl rfl .all (R.load Try.underlying3 rfl (by exact .s rfl) (by exact cS M2 rfl)) ?_
  refine At.e rfl rfl rfl rfl .all (R.neq (by exact .s rfl) (by exact .s rfl)) ?_
  refine At.e rfl rfl rfl rfl .all (R.pickOr (.t rfl) rfl (by simp_all)) ?_
  refine At.e rfl rfl rfl rfl .all (R.move (.t rfl)) ?_
  refine At.e rfl rfl rfl rfl .all (R.fieldAddr fo_40_8 (by exact .t rfl)) ?_
  refine At.e rfl rfl rfl rfl .all (R.load Try.underlying38 rfl (by exact .s rfl) (by exact cS M3 rfl)) ?_
  refine At.e rfl rfl rfl rfl .all (R.lenRd Try.underlying38 (by exact .s rfl) (by (exact rS M0))) ?_
  refine At.e rfl rfl rfl rfl .all (R.fieldAddr fo_40_8 (by exact .t rfl)) ?_
  refine At.e rfl rfl rfl rfl .all (R.load Try.underlying38 rfl (by exact .s rfl) (by exact cS M2 rfl)) ?_
  refine At.e rfl rfl rfl rfl .all (R.lenRd Try.underlying38 (by exact .s rfl) (by (exact rS M1))) ?_
  refine At.e rfl rfl rfl rfl .all (R.neq (by exact .s rfl) (by exact .s rfl)) ?_
  refine At.e rfl rfl rfl rfl .all (R.pickOr (.t rfl) rfl (by simp_all)) ?_
  refine At.nil ?_
  refine At.tN ?_
  refine At.cond (.t rfl) (fun c1 => ?_) (fun c1 => ?_)
  · have hne : ¬ ((a0 = d0 ∧ a1 = d1 ∧ a2 = d2 ∧ a3 = d3 ∧ a4 = d4 ∧ a5 = d5 ∧ a6 = d6 ∧ a7 = d7) ∧ l.length = k.length) := fun h => (by obtain ⟨⟨h0, h1, h2, h3, h4, h5, h6, h7⟩, h8⟩ := h; subst h0 h1 h2 h3 h4 h5 h6 h7; simp [h8] at c1)
    refine At.seq ?_
    refine At.plain [(false, 0)] rfl ?_
    refine At.e rfl rfl rfl rfl .all (R.assign .c) ?_
    refine At.nil ?_
    refine At.tN ?_
    refine At.ret ?_
    refine At.tR ?_
    exact At.final rfl (.t rfl) (List.nil_sublist _) (⟨congrArg Value.bool (by (symm; apply decide_eq_false; (rintro ⟨he, e⟩; subst e; exact hne ⟨he, rfl⟩))), rfl, rfl⟩)
  · have hq : (a0 = d0 ∧ a1 = d1 ∧ a2 = d2 ∧ a3 = d3 ∧ a4 = d4 ∧ a5 = d5 ∧ a6 = d6 ∧ a7 = d7) ∧ l.length = k.length := (by simp at c1; omega)
    refine At.skip ?_
    refine At.tN ?_
    refine At.seq ?_
    refine At.seq ?_
    refine At.plain [(false, 0)] rfl ?_
    refine At.e rfl rfl rfl rfl .all (R.assign .c) ?_
    refine At.nil ?_
    refine At.tN ?_
    refine At.block ?_
    refine At.loop1 (fun (i : Nat) => i ≤ l.length ∧ l.length = k.length ∧ l.take i = k.take i) (fun (i : Nat) => l.length - i) (fun (i : Nat) => [(2, true, .pointer (some ⟨b1, 0, none⟩)), (3, true, .pointer (some ⟨b2, 0, none⟩)), (5, true, .int .i64 i)]) (fun (i : Nat) => [.blk b2 (.cells #[.int .i64 d0, .int .i64 d1, .int .i64 d2, .int .i64 d3, .int .i64 d4, .int .i64 d5, .int .i64 d6, .int .i64 d7, v] 40), .blk b1 (.cells #[.int .i64 a0, .int .i64 a1, .int .i64 a2, .int .i64 a3, .int .i64 a4, .int .i64 a5, .int .i64 a6, .int .i64 a7, u] 40)]) (fun (i : Nat) => []) (0) ⟨Nat.zero_le _, hq.2, by simp⟩ (.cons rfl (.cons rfl (.cons rfl .nil))) (by ((repeat (first | exact List.Sublist.refl _ | exact List.nil_sublist _ | apply List.Sublist.cons_cons | apply List.Sublist.cons)))) rfl (fun i hi => ?_)
    obtain ⟨hi1, hi2, hi3⟩ := hi
    refine At.seq ?_
    refine At.seq ?_
    refine At.plain [(false, 0), (false, 1), (false, 2), (false, 3), (false, 4)] rfl ?_
    refine At.e rfl rfl rfl rfl .all (R.move (.t rfl)) ?_
    refine At.e rfl rfl rfl rfl .all (R.fieldAddr fo_40_8 (.t rfl)) ?_
    refine At.e rfl rfl rfl rfl .all (R.load Try.underlying38 rfl (.t rfl) (by exact cS M3 rfl)) ?_
    refine At.e rfl rfl rfl rfl .all (R.lenRd Try.underlying38 (.t rfl) (by (exact rS M0))) ?_
    refine At.e rfl rfl rfl rfl .all (R.lss (.t rfl) (.t rfl)) ?_
    refine At.nil ?_
    refine At.tN ?_
    refine At.condD (.t rfl) (fun c2 => ?_) (fun c2 => ?_)
    · skip
      refine At.skip ?_
      refine At.tN ?_
      refine At.seq ?_
      refine At.block ?_
      refine At.seq ?_
      refine At.drawK [(true, 0), (true, 1), (true, 2), (true, 3), (true, 4), (true, 5), (true, 6), (true, 7), (true, 8), (true, 9), (true, 10)] (by kernel_rfl) (by kernel_rfl) ?_
      refine At.s rfl rfl rfl rfl (Cl.kept fun _ h => h) (R.fieldAddr fo_40_8 (.t rfl)) ?_
      refine At.s rfl rfl rfl rfl (Cl.kept fun _ h => h) (R.load Try.underlying38 rfl (.t rfl) (by exact cK M3 rfl)) ?_
      refine At.s rfl rfl rfl rfl (Cl.kept fun _ h => h) (R.move (.t rfl)) ?_
      refine At.s rfl rfl rfl rfl (Cl.kept fun _ h => h) (R.indexRd Try.underlying38 sz_61 (.t rfl) (by (exact rK M0)) (.t rfl) (fun hg => (by omega))) ?_
      refine At.s rfl rfl rfl rfl (Cl.kept fun _ h => h) (R.loadRdAgg (us := cellK.enc _) Try.underlying61 rfl sz_61 (.t rfl) (by (exact rK M0)) (fun hg => (by omega)) (fun hg => by exact Ek.getA (by omega))) ?_
      refine At.s rfl rfl rfl rfl (Cl.kept fun _ h => h) (R.fieldAddr fo_40_8 (.t rfl)) ?_
      refine At.s rfl rfl rfl rfl (Cl.kept fun _ h => h) (R.load Try.underlying38 rfl (.t rfl) (by exact cK M2 rfl)) ?_
      refine At.s rfl rfl rfl rfl (Cl.kept fun _ h => h) (R.move (.t rfl)) ?_
      refine At.s rfl rfl rfl rfl (Cl.kept fun _ h => h) (R.indexRd Try.underlying38 sz_61 (.t rfl) (by (exact rK M1)) (.t rfl) (fun hg => (by omega))) ?_
      refine At.s rfl rfl rfl rfl (Cl.kept fun _ h => h) (R.loadRdAgg (us := cellK.enc _) Try.underlying61 rfl sz_61 (.t rfl) (by (exact rK M1)) (fun hg => (by omega)) (fun hg => by exact Ek.getA (by omega))) ?_
      refine At.s rfl rfl rfl rfl (Cl.kept fun _ h => h) (R.as (R.neqS fq_61 (.t rfl) (.t rfl) rfl) (fun _ => congrArg (fun b => Value.bool (!b)) cellK_eqb)) ?_
      refine At.nil ?_
      refine At.tN ?_
      refine At.condN (.t rfl) (fun c3 => ?_) (fun c3 => ?_)
      · skip
        refine At.seq ?_
        refine At.plain [(false, 0)] rfl ?_
        refine At.e rfl rfl rfl rfl .all (R.assign .c) ?_
        refine At.nil ?_
        refine At.tN ?_
        refine At.ret ?_
        refine At.bR ?_
        refine At.tR ?_
        refine At.tR ?_
        refine At.bR ?_
        refine At.tR ?_
        exact At.final rfl (.t rfl) (List.nil_sublist _) (⟨congrArg Value.bool (by (symm; apply decide_eq_false; (rintro ⟨he, e⟩; subst e; contradiction))), rfl, rfl⟩)
      · skip
        refine At.skip ?_
        refine At.bN ?_
        refine At.tN ?_
        refine At.plain [(false, 0), (false, 1), (false, 2)] rfl ?_
        refine At.e rfl rfl rfl rfl .all (R.move (.t rfl)) ?_
        refine At.e rfl rfl rfl rfl .all (R.addI (.t rfl) .c (fun hg => by omega)) ?_
        refine At.e rfl rfl rfl rfl .all (R.assign (.t rfl)) ?_
        refine At.nil ?_
        refine At.tN ?_
        exact At.again1 (i + 1) ⟨by omega, by omega, take_step hi2 hi3 (by omega) (by simpa using c3)⟩ (by omega) (.cons rfl (.cons rfl (.cons rfl .nil))) (by ((repeat (first | exact List.Sublist.refl _ | exact List.nil_sublist _ | apply List.Sublist.cons_cons | apply List.Sublist.cons)))) rfl
    · skip
      refine At.exit ?_
      refine At.tE ?_
      refine At.tE ?_
      refine At.bE ?_
      refine At.tN ?_
      refine At.seq ?_
      refine At.plain [(false, 0)] rfl ?_
      refine At.e rfl rfl rfl rfl .all (R.assign .c) ?_
      refine At.nil ?_
      refine At.tN ?_
      refine At.ret ?_
      exact At.final rfl (.t rfl) (List.nil_sublist _) (⟨congrArg Value.bool (by (symm; apply decide_eq_true; exact ⟨hq.1, take_eq_all hi1 hi2 hi3 (by omega)⟩)), rfl, rfl⟩)

end Go.Proofs.Ytejpanipdjknjaa
