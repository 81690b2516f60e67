/- LGroupFree -/
import Derived.Test.YtejpanipdjknjaaL9
namespace Go.Proofs.Ytejpanipdjknjaa
open Go Go.RowKit
set_option maxRecDepth 10000
set_option linter.unusedVariables false



theorem sort_of {s : List Itm} (h : s.Pairwise leI) : sortF s = s := (sorted_unique h (sortF_spec s).2 (sortF_spec s).1).symm
theorem kept_le (l : List Itm) (vs : List Int) : (keptF l vs).Pairwise leI := (kept_strict l vs).imp fun {a b} h => lt_le h
theorem free_is {l : List Itm} {vs : List Int} {cells : Int} : splitK (min (max cells 2) 16 / 2) (keptF l vs) (keysP (keptF l vs)) = splitR (max 2 (min cells 16) / 2) [[]] (keptF l vs) := by
  have := split_same (l := keptF l vs) (min (max cells 2) 16 / 2)
  rw [sort_of (kept_le l vs)] at this
  rw [this, half_same]
theorem free_len {l : List Itm} {vs : List Int} {h : Int} : (splitR h [[]] (keptF l vs)).length ≤ (keptF l vs).length + 1 := by
  have := grp_len (h := h) (l := keptF l vs)
  rwa [grpF, sort_of (kept_le l vs)] at this
theorem free_bd {l : List Itm} {vs : List Int} {gs : List (SV × List Itm)} {cells : Int} {n i : Nat} (hgs : gs.map (·.2) = splitR (max 2 (min cells 16) / 2) [[]] (keptF l vs)) (hW : ∀ x ∈ l, x.ver ≤ maxI) (hi : i < gs.length) (hv : vs.length ≤ n) (hc : cells = (n : Int) + 2) : (gE gs (i : Int)).2.length ≤ n + 1 := by
  rw [gsAt hgs]
  exact grp_free hW (by rw [← gsLen hgs]; exact hi) hv (by omega)
theorem l_GroupFree {u vv : Value} {l : List Itm} {vs : List Int} {threads : Int} (hW : ∀ x ∈ l, -9223372036854775808 ≤ x.ver ∧ x.ver ≤ maxI) (ht : 0 ≤ threads ∧ threads ≤ 255) : Fn Try.prog 5 [u, vv, .int .u8 threads] [rdE iK u l, rdE zK vv vs] [] (IsV (.bool true)) := by
  refine Fn.enter Try.func5 (by kernel_rfl) rfl (n := 49) rfl rfl (fun w => ?_)
  refine At.len (v := u) (by (exact rS M0)) (fun hl1 => ?_)
  refine At.len (v := vv) (by (exact rS M1)) (fun hl2 => ?_)
  have hW2 : ∀ x ∈ l, x.ver ≤ maxI := fun x hx => (hW x hx).2
  obtain ⟨n, hn⟩ : ∃ n : Nat, threads % 8 + 1 = n := ⟨(threads % 8 + 1).toNat, by omega⟩
  have hkl := kept_len (vs := vs) hW2
  refine At.seq ?_
  refine At.plain [(false, 0)] rfl ?_
  refine At.e rfl rfl rfl rfl .all (R.assign .c) ?_
  refine At.nil ?_
  refine At.tN ?_
  refine At.seq ?_
  refine At.seq ?_
  refine At.plain [(false, 0), (false, 1)] rfl ?_
  refine At.callVR rfl rfl rfl .nil (by (exact .nil)) (fun hg => c_known9) .all ?_
  refine At.e rfl rfl rfl rfl .all (R.not (.t rfl)) ?_
  refine At.nil ?_
  refine At.tN ?_
  refine At.condF (.t rfl) ?_
  refine At.skip ?_
  refine At.tN ?_
  refine At.seq ?_
  refine At.plain [(false, 0), (false, 1), (false, 2), (false, 3), (false, 4)] rfl ?_
  refine At.e rfl rfl rfl rfl .all (R.move (.t rfl)) ?_
  refine At.e rfl rfl rfl rfl .all (R.remI (.t rfl) .c (fun hg => by omega)) ?_
  refine At.e rfl rfl rfl rfl .all (R.as (R.conv Try.underlying5 Try.underlying3 (.t rfl)) (fun _ => congrArg (Value.int .i64) (IntWalk.i64_in _ (by omega)))) ?_
  refine At.e rfl rfl rfl rfl .all (R.as (R.addI (.t rfl) .c (fun hg => by omega)) (fun _ => congrArg (Value.int .i64) hn)) ?_
  refine At.e rfl rfl rfl rfl .all (R.assign (.t rfl)) ?_
  refine At.nil ?_
  refine At.tN ?_
  refine At.seq ?_
  refine At.seq ?_
  refine At.plain [(false, 0), (false, 1), (false, 2), (false, 3), (false, 4), (false, 5), (false, 6), (false, 7), (false, 8), (false, 9)] rfl ?_
  refine At.e rfl rfl rfl rfl .all (R.move (.t rfl)) ?_
  refine At.e rfl rfl rfl rfl .all (R.lenRd Try.underlying22 (.t rfl) (by exact rS M0)) ?_
  refine At.e rfl rfl rfl rfl .all (R.gtr (.t rfl) .c) ?_
  refine At.e rfl rfl rfl rfl .all (R.move (.t rfl)) ?_
  refine At.e rfl rfl rfl rfl .all (R.move (by exact .t rfl)) ?_
  refine At.e rfl rfl rfl rfl .all (R.lenRd Try.underlying32 (by exact .s rfl) (by exact rS M1)) ?_
  refine At.e rfl rfl rfl rfl .all (R.move (by exact .t rfl)) ?_
  refine At.e rfl rfl rfl rfl .all (R.addI (by exact .s rfl) .c (fun hg => by omega)) ?_
  refine At.e rfl rfl rfl rfl .all (R.geq (by exact .s rfl) (by exact .s rfl)) ?_
  refine At.e rfl rfl rfl rfl .all (R.pickOr (.t rfl) rfl (by (intro hg h; rw [h]; rfl))) ?_
  refine At.nil ?_
  refine At.tN ?_
  refine At.cond (.t rfl) (fun c2 => ?_) (fun c2 => ?_)
  · skip
    refine At.seq ?_
    refine At.plain [(false, 0)] rfl ?_
    refine At.e rfl rfl rfl rfl .all (R.assign .c) ?_
    refine At.nil ?_
    refine At.tN ?_
    refine At.ret ?_
    refine At.tR ?_
    exact At.final rfl (.t rfl) (List.nil_sublist _) (⟨congrArg Value.bool (by rfl), rfl, rfl⟩)
  · have hq : l.length ≤ 40 ∧ vs.length ≤ n := (by simp at c2; omega)
    refine At.skip ?_
    refine At.tN ?_
    refine At.seq ?_
    refine At.plain [(false, 0), (false, 1), (false, 2), (false, 3), (false, 4), (false, 5), (false, 6)] rfl ?_
    refine At.e rfl rfl rfl rfl .all (R.move (.t rfl)) ?_
    refine At.e rfl rfl rfl rfl .all (R.move (.t rfl)) ?_
    refine At.callRF rfl rfl rfl (.cons (.t rfl) (.cons (.t rfl) .nil)) (by (exact .cons (by (exact rS M0)) (.cons (by (exact rS M1)) .nil))) (c_rKeep (by omega)) (fun v1 => ⟨.all, ?_⟩)
    refine At.e rfl rfl rfl rfl .all (R.move (.t rfl)) ?_
    refine At.e rfl rfl rfl rfl .all (R.addI (.t rfl) .c (fun hg => by omega)) ?_
    refine At.callRG rfl rfl rfl (.cons (.t rfl) (.cons (.t rfl) .nil)) (by (exact .cons (by (exact wS M2)) .nil)) (c_Split (l := keptF l vs) (by omega)) (fun vg gs hgs => ⟨.all, ?_⟩); rw [free_is] at hgs; have hgl := gsLen hgs; have hml : (gs.map (·.1)).length = gs.length := List.length_map _; have hg0 := free_pos (h := max 2 (min ((n : Int) + 2) 16) / 2) (l := l) (vs := vs); have hgn := free_len (h := max 2 (min ((n : Int) + 2) 16) / 2) (l := l) (vs := vs)
    refine At.e rfl rfl rfl rfl .all (R.assign (.t rfl)) ?_
    refine At.nil ?_
    refine At.tN ?_
    refine At.seq ?_
    refine At.seq ?_
    refine At.plain [(false, 0)] rfl ?_
    refine At.e rfl rfl rfl rfl .all (R.assign .c) ?_
    refine At.nil ?_
    refine At.tN ?_
    refine At.block ?_
    refine At.loop1 (fun (i : Nat) => i ≤ gs.length) (fun (i : Nat) => gs.length - i) (fun (i : Nat) => [(7, true, .int .i64 n), (8, true, vg), (9, true, .int .i64 i)]) (fun (i : Nat) => rowE sK 22 vg (gs.map (·.1)) :: rowE iK 43 v1 (keptF l vs) :: seg iK 43 gs) (fun (i : Nat) => []) (0) (Nat.zero_le _) (.cons rfl (.cons rfl (.cons rfl .nil))) (by (exact List.Sublist.refl _)) rfl (fun i hi => ?_)
    refine At.seq ?_
    refine At.seq ?_
    refine At.plain [(false, 0), (false, 1), (false, 2), (false, 3)] rfl ?_
    refine At.e rfl rfl rfl rfl .all (R.move (.t rfl)) ?_
    refine At.e rfl rfl rfl rfl .all (R.move (.t rfl)) ?_
    refine At.e rfl rfl rfl rfl .all (R.lenRd Try.underlying29 (.t rfl) (by exact wS M2)) ?_
    refine At.e rfl rfl rfl rfl .all (R.lss (.t rfl) (.t rfl)) ?_
    refine At.nil ?_
    refine At.tN ?_
    refine At.condD (.t rfl) (fun c3 => ?_) (fun c3 => ?_)
    · have hfr := free_bd (n := n) (i := i) hgs hW2 (by omega) (by omega) (by omega)
      refine At.skip ?_
      refine At.tN ?_
      refine At.seq ?_
      refine At.block ?_
      refine At.seq ?_
      refine At.plain [(false, 0), (false, 1), (false, 2), (false, 3), (false, 4), (false, 5), (false, 6), (false, 7)] rfl ?_
      refine At.e rfl rfl rfl rfl .all (R.move (.t rfl)) ?_
      refine At.e rfl rfl rfl rfl .all (R.move (.t rfl)) ?_
      refine At.e rfl rfl rfl rfl .all (R.indexRd Try.underlying29 sz_22 (.t rfl) (by exact wS M2) (.t rfl) (fun hg => (by omega))) ?_
      refine At.e rfl rfl rfl rfl .all (R.loadRd Try.underlying22 rfl (.t rfl) (by exact wS M2) (fun hg => by exact segGet (by omega))) ?_
      refine At.e rfl rfl rfl rfl .all (R.lenRd Try.underlying22 (.t rfl) (by exact segST (k := iK) (gs := gs) (by (apply List.Sublist.cons; apply List.Sublist.cons; exact List.Sublist.refl _)) (by omega))) ?_
      refine At.e rfl rfl rfl rfl .all (R.move (.t rfl)) ?_
      refine At.e rfl rfl rfl rfl .all (R.addI (.t rfl) .c (fun hg => by omega)) ?_
      refine At.e rfl rfl rfl rfl .all (R.as (R.geq (.t rfl) (.t rfl)) (fun _ => congrArg Value.bool (decide_eq_false (by omega)))) ?_
      refine At.nil ?_
      refine At.tN ?_
      refine At.condF (.t rfl) ?_
      refine At.skip ?_
      refine At.bN ?_
      refine At.tN ?_
      refine At.plain [(false, 0), (false, 1), (false, 2)] rfl ?_
      refine At.e rfl rfl rfl rfl .all (R.move (.t rfl)) ?_
      refine At.e rfl rfl rfl rfl .all (R.addI (.t rfl) .c (fun hg => by omega)) ?_
      refine At.e rfl rfl rfl rfl .all (R.assign (.t rfl)) ?_
      refine At.nil ?_
      refine At.tN ?_
      exact At.again1 (i + 1) (by omega) (by omega) (.cons rfl (.cons rfl (.cons rfl .nil))) (by (exact List.Sublist.refl _)) rfl
    · skip
      refine At.exit ?_
      refine At.tE ?_
      refine At.tE ?_
      refine At.bE ?_
      refine At.tN ?_
      refine At.seq ?_
      refine At.plain [(false, 0), (false, 1), (false, 2), (false, 3)] rfl ?_
      refine At.e rfl rfl rfl rfl .all (R.move (.t rfl)) ?_
      refine At.e rfl rfl rfl rfl .all (R.lenRd Try.underlying29 (.t rfl) (by exact wS M2)) ?_
      refine At.e rfl rfl rfl rfl .all (R.as (R.geq (.t rfl) .c) (fun _ => congrArg Value.bool (decide_eq_true (by omega)))) ?_
      refine At.e rfl rfl rfl rfl .all (R.assign (.t rfl)) ?_
      refine At.nil ?_
      refine At.tN ?_
      refine At.ret ?_
      exact At.final rfl (.t rfl) (List.nil_sublist _) (⟨congrArg Value.bool (by rfl), rfl, rfl⟩)

end Go.Proofs.Ytejpanipdjknjaa
