/- G3 -/
import Derived.Test.YtejpanipdjknjaaK1
import Derived.Test.YtejpanipdjknjaaEngG
namespace Go.Proofs.Ytejpanipdjknjaa
open Go Go.RowKit
set_option maxRecDepth 10000
set_option linter.unusedVariables false
theorem fo_40_8 : fieldOff? Try.prog 40 8 = some 8 := by kernel_rfl
theorem fo_61_0 : fieldOff? Try.prog 61 0 = some 0 := by kernel_rfl
theorem fo_61_1 : fieldOff? Try.prog 61 1 = some 1 := by kernel_rfl
theorem fo_61_2 : fieldOff? Try.prog 61 2 = some 2 := by kernel_rfl
theorem sz_61 : (Try.prog.info? 61).map (·.size) = some 3 := by kernel_rfl
theorem ze_61 : (Try.prog.info? 61).bind (·.zero) = some (.agg #[.int .i64 0, .int .i64 0, .int .i64 0]) := by kernel_rfl


def verF (s : Int) : Int := if s < 3 then -1 else s - 3
/-- A chunk's items. -/
def itemsF (l : List Cel) : List Itm := (l.filter (fun x => decide (3 ≤ x.state))).map fun x => ⟨x.key, verF x.state, x.data⟩
theorem gE_mem {α : Type} [Inhabited α] {l : List α} {i : Nat} (h : i < l.length) : gE l (i : Int) ∈ l := by
  unfold gE; rw [Int.toNat_natCast, List.getD_eq_getElem?_getD, List.getElem?_eq_getElem h]; exact List.getElem_mem _
theorem take_succ_gE' {α : Type} [Inhabited α] {l : List α} {i : Nat} (h : i < l.length) : l.take (i + 1) = l.take i ++ [gE l (i : Int)] := by
  rw [List.take_succ_eq_append_getElem h]; simp [gE, h]
theorem items_yes {l : List Cel} {i : Nat} (hi : i < l.length) (hc : 3 ≤ (gE l (i : Int)).state) : itemsF (l.take i) ++ [⟨(gE l (i : Int)).key, verF (gE l (i : Int)).state, (gE l (i : Int)).data⟩] = itemsF (l.take (i + 1)) := by
  rw [take_succ_gE' hi]; unfold itemsF; rw [List.filter_append, List.map_append]; simp [hc]
theorem items_no {l : List Cel} {i : Nat} (hi : i < l.length) (hc : ¬ 3 ≤ (gE l (i : Int)).state) : itemsF (l.take i) = itemsF (l.take (i + 1)) := by
  rw [take_succ_gE' hi]; unfold itemsF; rw [List.filter_append, List.map_append]; simp [hc]
theorem c_rVersion {s : Int} (h0 : -9223372036854775808 ≤ s ∧ s ≤ 9223372036854775807) : Fn Try.prog 45 [.int .i64 s] [] [] (IsV (.int .i64 (verF s))) := by
  refine Fn.enter Try.func45 (by kernel_rfl) rfl (n := 7) rfl rfl (fun w => ?_)
  refine At.seq ?_
  refine At.plain [(false, 0)] rfl ?_
  refine At.e rfl rfl rfl rfl .all (R.assign .c) ?_
  refine At.nil ?_
  refine At.tN ?_
  refine At.seq ?_
  refine At.seq ?_
  refine At.plain [(false, 0), (false, 1)] rfl ?_
  refine At.e rfl rfl rfl rfl .all (R.move (.t rfl)) ?_
  refine At.e rfl rfl rfl rfl .all (R.lss (.t rfl) .c) ?_
  refine At.nil ?_
  refine At.tN ?_
  refine At.condD (.t rfl) (fun c1 => ?_) (fun c1 => ?_)
  · skip
    refine At.seq ?_
    refine At.plain [(false, 0)] rfl ?_
    refine At.e rfl rfl rfl rfl .all (R.assign .c) ?_
    refine At.nil ?_
    refine At.tN ?_
    refine At.ret ?_
    refine At.tR ?_
    exact At.final rfl (.t rfl) (List.nil_sublist _) (⟨congrArg (Value.int .i64) (by unfold verF; rw [if_pos (by omega)]), rfl, rfl⟩)
  · skip
    refine At.skip ?_
    refine At.tN ?_
    refine At.seq ?_
    refine At.plain [(false, 0), (false, 1), (false, 2)] rfl ?_
    refine At.e rfl rfl rfl rfl .all (R.move (.t rfl)) ?_
    refine At.e rfl rfl rfl rfl .all (R.subI (.t rfl) .c (fun hg => by omega)) ?_
    refine At.e rfl rfl rfl rfl .all (R.assign (.t rfl)) ?_
    refine At.nil ?_
    refine At.tN ?_
    refine At.ret ?_
    exact At.final rfl (.t rfl) (List.nil_sublist _) (⟨congrArg (Value.int .i64) (by unfold verF; rw [if_neg (by omega)]), rfl, rfl⟩)

theorem c_rItems {a0 a1 a2 a3 a4 a5 a6 a7 : Int} {u : Value} {l : List Cel} (hL : l.length ≤ 1000) (hw : ∀ x ∈ l, x.state ≤ 9223372036854775807) : Fn Try.prog 31 [.agg #[.int .i64 a0, .int .i64 a1, .int .i64 a2, .int .i64 a3, .int .i64 a4, .int .i64 a5, .int .i64 a6, .int .i64 a7, u]] [rdE cellK u l] [] (IsR iK 43 (itemsF l)) := by
  refine Fn.enter Try.func31 (by kernel_rfl) rfl (n := 33) rfl rfl (fun w => ?_)
  refine At.seq ?_
  refine At.plain [(false, 0), (false, 1)] rfl ?_
  refine At.box rfl rfl rfl (.t rfl) (fun b1 hb1 => ⟨.all, ?_⟩)
  refine At.e rfl rfl rfl rfl .all (R.assign .c) ?_
  refine At.nil ?_
  refine At.tN ?_
  refine At.seq ?_
  refine At.plain [(false, 0)] rfl ?_
  refine At.e rfl rfl rfl rfl .all (R.assign .c) ?_
  refine At.nil ?_
  refine At.tN ?_
  refine At.seq ?_
  refine At.seq ?_
  refine At.plain [(false, 0)] rfl ?_
  refine At.e rfl rfl rfl rfl .all (R.assign .c) ?_
  refine At.nil ?_
  refine At.tN ?_
  refine At.block ?_
  refine At.nilRow iK 43 ?_
  refine At.loop3 (fun (i : Nat) (out : List Itm) (v : Value) => i ≤ l.length ∧ out = itemsF (l.take i) ∧ out.length ≤ i) (fun (i : Nat) (out : List Itm) (v : Value) => l.length - i) (fun (i : Nat) (out : List Itm) (v : Value) => [(1, true, .pointer (some ⟨b1, 0, none⟩)), (3, true, v), (4, true, .int .i64 i)]) (fun (i : Nat) (out : List Itm) (v : Value) => [rowE iK 43 v out, .blk b1 (.cells #[.int .i64 a0, .int .i64 a1, .int .i64 a2, .int .i64 a3, .int .i64 a4, .int .i64 a5, .int .i64 a6, .int .i64 a7, u] 40)]) (fun (i : Nat) (out : List Itm) (v : Value) => []) (0) ([]) (.slice none 0 0) ⟨Nat.zero_le _, rfl, Nat.le_refl _⟩ (.cons rfl (.cons rfl (.cons rfl .nil))) (by ((repeat (first | exact List.Sublist.refl _ | exact List.nil_sublist _ | apply List.Sublist.cons_cons | apply List.Sublist.cons)))) rfl (fun i out v hi => ?_)
  obtain ⟨hi1, hi2, hi3⟩ := hi
  refine At.seq ?_
  refine At.seq ?_
  refine At.plain [(false, 0), (false, 1), (false, 2), (false, 3), (false, 4)] rfl ?_
  refine At.e rfl rfl rfl rfl .all (R.move (.t rfl)) ?_
  refine At.e rfl rfl rfl rfl .all (R.fieldAddr fo_40_8 (.t rfl)) ?_
  refine At.e rfl rfl rfl rfl .all (R.load Try.underlying38 rfl (.t rfl) (by exact cS M2 rfl)) ?_
  refine At.e rfl rfl rfl rfl .all (R.lenRd Try.underlying38 (.t rfl) (by (exact rS M0))) ?_
  refine At.e rfl rfl rfl rfl .all (R.lss (.t rfl) (.t rfl)) ?_
  refine At.nil ?_
  refine At.tN ?_
  refine At.condD (.t rfl) (fun c1 => ?_) (fun c1 => ?_)
  · skip
    refine At.skip ?_
    refine At.tN ?_
    refine At.seq ?_
    refine At.block ?_
    refine At.seq ?_
    refine At.plain [(false, 0), (false, 1), (false, 2), (false, 3), (false, 4), (false, 5), (false, 6)] rfl ?_
    refine At.e rfl rfl rfl rfl .all (R.fieldAddr fo_40_8 (.t rfl)) ?_
    refine At.e rfl rfl rfl rfl .all (R.load Try.underlying38 rfl (.t rfl) (by exact cS M2 rfl)) ?_
    refine At.e rfl rfl rfl rfl .all (R.move (.t rfl)) ?_
    refine At.e rfl rfl rfl rfl .all (R.indexRd Try.underlying38 sz_61 (.t rfl) (by (exact rS M0)) (.t rfl) (fun hg => (by omega))) ?_
    refine At.e rfl rfl rfl rfl .all (R.loadRdAgg (us := cellK.enc _) Try.underlying61 rfl sz_61 (.t rfl) (by (exact rS M0)) (fun hg => (by omega)) (fun hg => by exact Ek.getA (by omega))) ?_
    refine At.alloc rfl rfl rfl ze_61 (fun b2 hb2 => ⟨.all, ?_⟩)
    refine At.stN rfl rfl sz_61 (.t rfl) (.t rfl) rfl rfl rfl (.n U0) ⟨.all, ?_⟩
    refine At.nil ?_
    refine At.tN ?_
    refine At.seq ?_
    refine At.plain [(false, 0), (false, 1), (false, 2)] rfl ?_
    refine At.e rfl rfl rfl rfl .all (R.fieldAddr fo_61_0 (.t rfl)) ?_
    refine At.e rfl rfl rfl rfl .all (R.load Try.underlying3 rfl (.t rfl) (by exact cS M1 rfl)) ?_
    refine At.e rfl rfl rfl rfl .all (R.geq (.t rfl) .c) ?_
    refine At.nil ?_
    refine At.tN ?_
    refine At.condD (.t rfl) (fun c2 => ?_) (fun c2 => ?_)
    · have hst := hw _ (gE_mem (l := l) (i := i) (by omega))
      refine At.drawL ([rdE cellK u l, .blk b2 _, .blk b1 _]) [(true, 0), (true, 1), (true, 2), (true, 3), (true, 4), (true, 6), (true, 7)] [] [(false, 5), (true, 8), (false, 9), (false, 10), (true, 11)] (by (exact keepOf (by ((repeat (first | exact List.Sublist.refl _ | exact List.nil_sublist _ | apply List.Sublist.cons_cons | apply List.Sublist.cons)))))) (by kernel_rfl) (by kernel_rfl) ?_
      refine At.s rfl rfl rfl rfl (Cl.kept (by (exact keepOf (by ((repeat (first | exact List.Sublist.refl _ | exact List.nil_sublist _ | apply List.Sublist.cons_cons | apply List.Sublist.cons))))))) (R.move (.t rfl)) ?_
      refine At.s rfl rfl rfl rfl (Cl.kept (by (exact keepOf (by ((repeat (first | exact List.Sublist.refl _ | exact List.nil_sublist _ | apply List.Sublist.cons_cons | apply List.Sublist.cons))))))) (R.fieldAddr fo_61_1 (.t rfl)) ?_
      refine At.s rfl rfl rfl rfl (Cl.kept (by (exact keepOf (by ((repeat (first | exact List.Sublist.refl _ | exact List.nil_sublist _ | apply List.Sublist.cons_cons | apply List.Sublist.cons))))))) (R.load Try.underlying3 rfl (.t rfl) (by exact cK M1 rfl)) ?_
      refine At.s rfl rfl rfl rfl (Cl.kept (by (exact keepOf (by ((repeat (first | exact List.Sublist.refl _ | exact List.nil_sublist _ | apply List.Sublist.cons_cons | apply List.Sublist.cons))))))) (R.fieldAddr fo_61_0 (.t rfl)) ?_
      refine At.s rfl rfl rfl rfl (Cl.kept (by (exact keepOf (by ((repeat (first | exact List.Sublist.refl _ | exact List.nil_sublist _ | apply List.Sublist.cons_cons | apply List.Sublist.cons))))))) (R.load Try.underlying3 rfl (.t rfl) (by exact cK M1 rfl)) ?_
      refine At.s rfl rfl rfl rfl (Cl.kept (by (exact keepOf (by ((repeat (first | exact List.Sublist.refl _ | exact List.nil_sublist _ | apply List.Sublist.cons_cons | apply List.Sublist.cons))))))) (R.fieldAddr fo_61_2 (.t rfl)) ?_
      refine At.s rfl rfl rfl rfl (Cl.kept (by (exact keepOf (by ((repeat (first | exact List.Sublist.refl _ | exact List.nil_sublist _ | apply List.Sublist.cons_cons | apply List.Sublist.cons))))))) (R.load Try.underlying3 rfl (.t rfl) (by exact cK M1 rfl)) ?_
      refine At.stage (Cl.kept fun _ h => h) ?_
      refine At.stage (Cl.kept (by (exact keepOf (by ((repeat (first | exact List.Sublist.refl _ | exact List.nil_sublist _ | apply List.Sublist.cons_cons | apply List.Sublist.cons))))))) ?_
      refine At.callVR rfl rfl rfl (.cons (.t rfl) .nil) (by (exact .nil)) (fun hg => c_rVersion (by omega)) (Cl.kept (by (exact keepOf (by ((repeat (first | exact List.Sublist.refl _ | exact List.nil_sublist _ | apply List.Sublist.cons_cons | apply List.Sublist.cons))))))) ?_
      refine At.s rfl rfl rfl rfl (Cl.kept (by (exact keepOf (by ((repeat (first | exact List.Sublist.refl _ | exact List.nil_sublist _ | apply List.Sublist.cons_cons | apply List.Sublist.cons))))))) (R.build bt_43 (.cons (.t rfl) (.cons (.t rfl) (.cons (.t rfl) .nil))) (.cons rfl (.cons rfl (.cons rfl .nil))) rfl) ?_
      refine At.lit (k := iK) rfl rfl rfl Try.underlying22 et_43 (.cons (.t rfl) .nil) (.cons (y := ⟨_, _, _⟩) rfl .nil) rfl rfl rfl (fun v1 => ⟨(Cl.kept (by (exact keepOf (by ((repeat (first | exact List.Sublist.refl _ | exact List.nil_sublist _ | apply List.Sublist.cons_cons | apply List.Sublist.cons))))))), ?_⟩)
      refine At.app (k := iK) rfl rfl rfl Try.underlying22 et_43 (.t rfl) (.t rfl) (fun _ => by (exact U2)) (by (exact wS M1)) (by (simp <;> omega)) (fun v2 => ⟨(Cl.kept (by (exact keepOf (by ((repeat (first | exact List.Sublist.refl _ | exact List.nil_sublist _ | apply List.Sublist.cons_cons | apply List.Sublist.cons))))))), ?_⟩)
      refine At.s rfl rfl rfl rfl (Cl.kept (by (exact keepOf (by ((repeat (first | exact List.Sublist.refl _ | exact List.nil_sublist _ | apply List.Sublist.cons_cons | apply List.Sublist.cons))))))) (R.assign (.t rfl)) ?_
      refine At.nil ?_
      refine At.bN ?_
      refine At.tN ?_
      refine At.plain [(false, 0), (false, 1), (false, 2)] rfl ?_
      refine At.e rfl rfl rfl rfl .all (R.move (.t rfl)) ?_
      refine At.e rfl rfl rfl rfl .all (R.addI (.t rfl) .c (fun hg => by omega)) ?_
      refine At.e rfl rfl rfl rfl .all (R.assign (.t rfl)) ?_
      refine At.nil ?_
      refine At.tN ?_
      exact At.again3 (i + 1) (out ++ [⟨(gE l i).key, verF (gE l i).state, (gE l i).data⟩]) (v2) ⟨by omega, by rw [hi2]; exact items_yes (by omega) c2, by simp; omega⟩ (by omega) (.cons rfl (.cons rfl (.cons rfl .nil))) (by ((repeat (first | exact List.Sublist.refl _ | exact List.nil_sublist _ | apply List.Sublist.cons_cons | apply List.Sublist.cons)))) rfl
    · skip
      refine At.skip ?_
      refine At.bN ?_
      refine At.tN ?_
      refine At.plain [(false, 0), (false, 1), (false, 2)] rfl ?_
      refine At.e rfl rfl rfl rfl .all (R.move (.t rfl)) ?_
      refine At.e rfl rfl rfl rfl .all (R.addI (.t rfl) .c (fun hg => by omega)) ?_
      refine At.e rfl rfl rfl rfl .all (R.assign (.t rfl)) ?_
      refine At.nil ?_
      refine At.tN ?_
      exact At.again3 (i + 1) (out) (v) ⟨by omega, by rw [hi2]; exact items_no (by omega) c2, by omega⟩ (by omega) (.cons rfl (.cons rfl (.cons rfl .nil))) (by ((repeat (first | exact List.Sublist.refl _ | exact List.nil_sublist _ | apply List.Sublist.cons_cons | apply List.Sublist.cons)))) rfl
  · skip
    refine At.exit ?_
    refine At.tE ?_
    refine At.tE ?_
    refine At.bE ?_
    refine At.tN ?_
    refine At.seq ?_
    refine At.plain [(false, 0), (false, 1)] rfl ?_
    refine At.e rfl rfl rfl rfl .all (R.move (.t rfl)) ?_
    refine At.e rfl rfl rfl rfl .all (R.assign (.t rfl)) ?_
    refine At.nil ?_
    refine At.tN ?_
    refine At.ret ?_
    exact At.final (N' := [rowE iK 43 v out]) rfl (.t rfl) (by ((repeat (first | exact List.Sublist.refl _ | exact List.nil_sublist _ | apply List.Sublist.cons_cons | apply List.Sublist.cons)))) (⟨by rw [hi2, List.take_of_length_le (by omega)], rfl⟩)

end Go.Proofs.Ytejpanipdjknjaa
