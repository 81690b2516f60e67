/- K5 -/
import Derived.Test.YtejpanipdjknjaaKeyS
namespace Go.Proofs.Ytejpanipdjknjaa
open Go Go.RowKit
set_option maxRecDepth 10000
set_option linter.unusedVariables false



/-- The program's keys. -/
def keysP (l : List Itm) : List Int := Lib.compact (sortZ (l.map (·.key)))
theorem c_Keys {u : Value} {l : List Itm} (hL : l.length ≤ 1000) : Fn Try.prog 37 [u] [rdE iK u l] [] (IsR zK 3 (keysP l)) := by
  refine Fn.enter Try.func37 (by kernel_rfl) rfl (n := 22) rfl rfl (fun w => ?_)
  refine At.len (v := u) (by (exact rS M0)) (fun hl1 => ?_)
  refine At.seq ?_
  refine At.plain [(false, 0)] rfl ?_
  refine At.e rfl rfl rfl rfl .all (R.assign .c) ?_
  refine At.nil ?_
  refine At.tN ?_
  refine At.seq ?_
  refine At.plain [(false, 0)] rfl ?_
  refine At.e rfl rfl rfl rfl .all (R.assign .c) ?_
  refine At.nil ?_
  refine At.tN ?_
  refine At.seq ?_
  refine At.seq ?_
  refine At.plain [(false, 0), (false, 1), (false, 2)] rfl ?_
  refine At.e rfl rfl rfl rfl .all (R.move (.t rfl)) ?_
  refine At.e rfl rfl rfl rfl .all (R.lenRd Try.underlying22 (.t rfl) (by (exact rS M0))) ?_
  refine At.e rfl rfl rfl rfl .all (R.move .c) ?_
  refine At.nil ?_
  refine At.tN ?_
  refine At.block ?_
  refine At.nilRow zK 3 ?_
  refine At.loop3 (fun (i : Nat) (out : List Int) (v : Value) => i ≤ l.length ∧ out = (l.take i).map (·.key) ∧ out.length = i) (fun (i : Nat) (out : List Int) (v : Value) => l.length - i) (fun (i : Nat) (out : List Int) (v : Value) => [(3, true, v), (6, true, u), (7, true, .int .i64 l.length), (8, true, .int .i64 i)]) (fun (i : Nat) (out : List Int) (v : Value) => [rowE zK 3 v out]) (fun (i : Nat) (out : List Int) (v : Value) => []) (0) ([]) (.slice none 0 0) ⟨Nat.zero_le _, by simp, rfl⟩ (.cons rfl (.cons rfl (.cons rfl (.cons rfl .nil)))) (by ((repeat (first | exact List.Sublist.refl _ | exact List.nil_sublist _ | apply List.Sublist.cons_cons | apply List.Sublist.cons)))) rfl (fun i out v hi => ?_)
  obtain ⟨hi1, hi2, hi3⟩ := hi
  refine At.seq ?_
  refine At.plain [(false, 0)] rfl ?_
  refine At.e rfl rfl rfl rfl .all (R.lss (.t rfl) (.t rfl)) ?_
  refine At.nil ?_
  refine At.tN ?_
  refine At.seq ?_
  refine At.condD (.t rfl) (fun c1 => ?_) (fun c1 => ?_)
  · skip
    refine At.skip ?_
    refine At.tN ?_
    refine At.seq ?_
    refine At.block ?_
    refine At.seq ?_
    refine At.plain [(false, 0), (false, 1), (false, 2), (false, 3)] rfl ?_
    refine At.e rfl rfl rfl rfl .all (R.indexRd Try.underlying22 sz_43 (.t rfl) (by (exact rS M0)) (.t rfl) (fun hg => (by omega))) ?_
    refine At.e rfl rfl rfl rfl .all (R.loadRdAgg (us := iK.enc _) Try.underlying43 rfl sz_43 (.t rfl) (by (exact rS M0)) (fun hg => (by omega)) (fun hg => by exact Ek.getA (by omega))) ?_
    refine At.alloc rfl rfl rfl ze_43 (fun b1 hb1 => ⟨.all, ?_⟩)
    refine At.stN rfl rfl sz_43 (.t rfl) (.t rfl) rfl rfl rfl (.n U0) ⟨.all, ?_⟩
    refine At.nil ?_
    refine At.tN ?_
    refine At.plain [(false, 0), (false, 1), (false, 2), (false, 3), (false, 4), (false, 5)] rfl ?_
    refine At.e rfl rfl rfl rfl .all (R.move (.t rfl)) ?_
    refine At.e rfl rfl rfl rfl .all (R.fieldAddr fo_43_0 (.t rfl)) ?_
    refine At.e rfl rfl rfl rfl .all (R.load Try.underlying3 rfl (.t rfl) (by exact cS M1 rfl)) ?_
    refine At.lit (k := zK) rfl rfl rfl Try.underlying32 et_3 (.cons (.t rfl) .nil) (.cons rfl .nil) rfl rfl rfl (fun v1 => ⟨.all, ?_⟩)
    refine At.app (k := zK) rfl rfl rfl Try.underlying32 et_3 (.t rfl) (.t rfl) (fun _ => by (exact U2)) (by (exact wS M1)) (by (simp <;> omega)) (fun v2 => ⟨.all, ?_⟩)
    refine At.e rfl rfl rfl rfl .all (R.assign (.t rfl)) ?_
    refine At.nil ?_
    refine At.bN ?_
    refine At.tN ?_
    refine At.plain [(false, 0), (false, 1)] rfl ?_
    refine At.e rfl rfl rfl rfl .all (R.addI (.t rfl) .c (fun hg => by omega)) ?_
    refine At.e rfl rfl rfl rfl .all (R.move (.t rfl)) ?_
    refine At.nil ?_
    refine At.tN ?_
    exact At.again3 (i + 1) (out ++ [(gE l i).key]) (v2) ⟨by omega, by rw [hi2, take_succ_gE (by omega)]; simp, by simp; omega⟩ (by omega) (.cons rfl (.cons rfl (.cons rfl (.cons rfl .nil)))) (by ((repeat (first | exact List.Sublist.refl _ | exact List.nil_sublist _ | apply List.Sublist.cons_cons | apply List.Sublist.cons)))) rfl
  · skip
    refine At.exit ?_
    refine At.tE ?_
    refine At.tE ?_
    refine At.bE ?_
    refine At.tN ?_
    refine At.seq ?_
    refine At.plain [(false, 0), (false, 1)] rfl ?_
    refine At.e rfl rfl rfl rfl .all (R.move (.t rfl)) ?_
    refine At.callHE (fst := []) (cap := []) rfl rfl rfl Ev.f (.cons (.t rfl) .nil) rfl .nil (c_sortE (l := out) rfl (by (omega))) rfl (fun _ => by (exact .n U0)) (fun _ => rfl) (fun l3 hl3 => ⟨.all, ?_⟩)
    refine At.nil ?_
    refine At.tN ?_
    refine At.seq ?_
    refine At.plain [(false, 0), (false, 1), (false, 2)] rfl ?_
    refine At.e rfl rfl rfl rfl .all (R.move (.t rfl)) ?_
    refine At.callHX (fst := []) (cap := []) rfl rfl rfl Ev.f (.cons (.t rfl) .nil) rfl (by (exact .nil)) (c_compI (l := l3) (n := out.length) (by rw [hl3, sortZ_length]) (by omega)) (by (exact fun _ _ _ h => (List.not_mem_nil h).elim)) (by (exact M0)) (fun _ => by (exact .n U0)) (fun _ h => h) (fun v4 hv4 => ⟨.all, ?_⟩)
    refine At.e rfl rfl rfl rfl .all (R.assign (.t rfl)) ?_
    refine At.nil ?_
    refine At.tN ?_
    refine At.ret ?_
    exact At.final (N' := [rowE zK 3 v4 (Lib.compact l3)]) rfl (.t rfl) (by ((repeat (first | exact List.Sublist.refl _ | exact List.nil_sublist _ | apply List.Sublist.cons_cons | apply List.Sublist.cons)))) (⟨by rw [hl3, hi2, List.take_of_length_le (by omega)]; rfl, rfl⟩)

end Go.Proofs.Ytejpanipdjknjaa
