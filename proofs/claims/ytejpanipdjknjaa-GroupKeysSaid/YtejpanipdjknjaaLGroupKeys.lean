/- LGroupKeys -/
import Derived.Test.YtejpanipdjknjaaL9
namespace Go.Proofs.Ytejpanipdjknjaa
open Go Go.RowKit
set_option maxRecDepth 10000
set_option linter.unusedVariables false



theorem grp_le {h : Int} {l : List Itm} {gs : List (SV × List Itm)} {i : Nat} (hgs : gs.map (·.2) = grpF h l) : (gE gs (i : Int)).2.length ≤ l.length := by
  rw [gsAt hgs]
  rcases Nat.lt_or_ge i (grpF h l).length with h1 | h1
  · exact grp_bd (gE_in h1)
  · unfold gE; rw [Int.toNat_natCast, List.getD_eq_getElem?_getD, List.getElem?_eq_none h1]; exact Nat.zero_le _
theorem grp_leI {h : Int} {l : List Itm} {gs : List (SV × List Itm)} {i : Int} (hgs : gs.map (·.2) = grpF h l) : (gE gs i).2.length ≤ l.length := grp_le (i := i.toNat) hgs |> fun h => by
  have e : gE gs ((i.toNat : Nat) : Int) = gE gs i := by unfold gE; rw [Int.toNat_natCast]
  rwa [e] at h
theorem keys_bad {h : Int} {l : List Itm} {gs : List (SV × List Itm)} {i : Nat} (hgs : gs.map (·.2) = grpF h l) (hi : i < gs.length)
    (hc : (gE gs (i : Int)).2.length = 0 ∧ 0 < l.length ∨ ((0 < i ∧ 0 < (gE gs (i : Int)).2.length) ∧ 0 < (gE gs ((i : Int) - 1)).2.length) ∧ (gE (gE gs (i : Int)).2 0).key ≤ (gE (gE gs ((i : Int) - 1)).2 (((gE gs ((i : Int) - 1)).2.length : Int) - 1)).key) : False := by
  have hl := gsLen hgs
  rw [gsAt hgs, gsAt hgs] at hc
  rcases hc with ⟨h1, h2⟩ | ⟨⟨⟨h1, h2⟩, h3⟩, h4⟩
  · have := grp_gt (h := h) (l := l) (i := i) (by intro e; rw [e] at h2; simp at h2) (by omega)
    omega
  · have := grp_next (h := h) (l := l) (i := i - 1) (by omega)
    rw [show ((i - 1 : Nat) : Int) = (i : Int) - 1 by omega, show (i : Int) - 1 + 1 = i by omega] at this
    omega
theorem keys_big {h : Int} {l : List Itm} {gs : List (SV × List Itm)} {i : Nat} (hgs : gs.map (·.2) = grpF h l) (hi : i < gs.length) (h0 : 0 ≤ h)
    (hc : h < ((gE gs (i : Int)).2.length : Int) ∧ ¬ (gE (gE gs (i : Int)).2 0).key = (gE (gE gs (i : Int)).2 (((gE gs (i : Int)).2.length : Int) - 1)).key) : False := by
  have hl := gsLen hgs
  rw [gsAt hgs] at hc
  exact hc.2 (grp_one (by omega) h0 hc.1)
theorem l_GroupKeys {u : Value} {l : List Itm} {cells : Int} (hc : 0 ≤ cells ∧ cells ≤ 255) : Fn Try.prog 4 [u, .int .u8 cells] [rdE iK u l] [] (IsV (.bool true)) := by
  refine Fn.enter Try.func4 (by kernel_rfl) rfl (n := 132) rfl rfl (fun w => ?_)
  refine At.len (v := u) (by (exact rS M0)) (fun hl1 => ?_)
  have hsl := sortF_length l
  obtain ⟨k, hk⟩ : ∃ k : Int, k = cells % 15 + 2 := ⟨_, rfl⟩
  refine At.seq ?_
  refine At.plain [(false, 0)] rfl ?_
  refine At.e rfl rfl rfl rfl .all (R.assign .c) ?_
  refine At.nil ?_
  refine At.tN ?_
  refine At.seq ?_
  refine At.seq ?_
  refine At.plain [(false, 0), (false, 1)] rfl ?_
  refine At.callVR rfl rfl rfl .nil (by (exact .nil)) (fun hg => c_known9) .all ?_
  refine At.e rfl rfl rfl rfl .all (R.not (.t rfl)) ?_
  refine At.nil ?_
  refine At.tN ?_
  refine At.condF (.t rfl) ?_
  refine At.skip ?_
  refine At.tN ?_
  refine At.seq ?_
  refine At.seq ?_
  refine At.plain [(false, 0), (false, 1), (false, 2)] rfl ?_
  refine At.e rfl rfl rfl rfl .all (R.move (.t rfl)) ?_
  refine At.e rfl rfl rfl rfl .all (R.lenRd Try.underlying22 (.t rfl) (by exact rS M0)) ?_
  refine At.e rfl rfl rfl rfl .all (R.gtr (.t rfl) .c) ?_
  refine At.nil ?_
  refine At.tN ?_
  refine At.condD (.t rfl) (fun c2 => ?_) (fun c2 => ?_)
  · skip
    refine At.seq ?_
    refine At.plain [(false, 0)] rfl ?_
    refine At.e rfl rfl rfl rfl .all (R.assign .c) ?_
    refine At.nil ?_
    refine At.tN ?_
    refine At.ret ?_
    refine At.tR ?_
    exact At.final rfl (.t rfl) (List.nil_sublist _) (⟨congrArg Value.bool (by rfl), rfl, rfl⟩)
  · have hq : l.length ≤ 40 := (by omega)
    refine At.skip ?_
    refine At.tN ?_
    refine At.seq ?_
    refine At.plain [(false, 0), (false, 1), (false, 2), (false, 3), (false, 4)] rfl ?_
    refine At.e rfl rfl rfl rfl .all (R.move (.t rfl)) ?_
    refine At.e rfl rfl rfl rfl .all (R.remI (.t rfl) .c (fun hg => by omega)) ?_
    refine At.e rfl rfl rfl rfl .all (R.as (R.conv Try.underlying5 Try.underlying3 (.t rfl)) (fun _ => congrArg (Value.int .i64) (IntWalk.i64_in _ (by omega)))) ?_
    refine At.e rfl rfl rfl rfl .all (R.as (R.addI (.t rfl) .c (fun hg => by omega)) (fun _ => congrArg (Value.int .i64) hk.symm)) ?_
    refine At.e rfl rfl rfl rfl .all (R.assign (.t rfl)) ?_
    refine At.nil ?_
    refine At.tN ?_
    refine At.seq ?_
    refine At.plain [(false, 0), (false, 1), (false, 2)] rfl ?_
    refine At.e rfl rfl rfl rfl .all (R.move (.t rfl)) ?_
    refine At.callRF rfl rfl rfl (.cons (.t rfl) .nil) (by (exact .cons (by (exact rS M0)) .nil)) (c_rSort (by omega)) (fun v1 => ⟨.all, ?_⟩)
    refine At.e rfl rfl rfl rfl .all (R.assign (.t rfl)) ?_
    refine At.nil ?_
    refine At.tN ?_
    refine At.seq ?_
    refine At.plain [(false, 0), (false, 1), (false, 2), (false, 3)] rfl ?_
    refine At.e rfl rfl rfl rfl .all (R.move (.t rfl)) ?_
    refine At.e rfl rfl rfl rfl .all (R.move (.t rfl)) ?_
    refine At.callRG rfl rfl rfl (.cons (.t rfl) (.cons (.t rfl) .nil)) (by (exact .cons (by (exact wS M1)) .nil)) (c_Split (l := sortF l) (by omega)) (fun vg gs hgs => ⟨.all, ?_⟩); rw [split_is, half_is (by omega)] at hgs; have hgl := gsLen hgs; have hml : (gs.map (·.1)).length = gs.length := List.length_map _; have hg0 := grp_pos (h := k / 2) (l := l); have hgn := grp_len (h := k / 2) (l := l)
    refine At.e rfl rfl rfl rfl .all (R.assign (.t rfl)) ?_
    refine At.nil ?_
    refine At.tN ?_
    refine At.seq ?_
    refine At.plain [(false, 0)] rfl ?_
    refine At.e rfl rfl rfl rfl .all (R.assign .c) ?_
    refine At.nil ?_
    refine At.tN ?_
    refine At.seq ?_
    refine At.seq ?_
    refine At.plain [(false, 0)] rfl ?_
    refine At.e rfl rfl rfl rfl .all (R.assign .c) ?_
    refine At.nil ?_
    refine At.tN ?_
    refine At.block ?_
    refine At.nilRow iK 43 ?_
    refine At.loop3 (fun (i : Nat) (out : List Itm) (vo : Value) => i ≤ gs.length ∧ out = ((grpF (k / 2) l).take i).flatten ∧ out.length ≤ 40 * i) (fun (i : Nat) (out : List Itm) (vo : Value) => gs.length - i) (fun (i : Nat) (out : List Itm) (vo : Value) => [(0, true, u), (5, true, .int .i64 k), (6, true, v1), (7, true, vg), (8, true, vo), (9, true, .int .i64 i)]) (fun (i : Nat) (out : List Itm) (vo : Value) => rowE iK 43 vo (out) :: rowE sK 22 vg (gs.map (·.1)) :: rowE iK 43 v1 (sortF l) :: seg iK 43 gs) (fun (i : Nat) (out : List Itm) (vo : Value) => []) (0) ([]) (.slice none 0 0) ⟨Nat.zero_le _, rfl, Nat.zero_le _⟩ (.cons rfl (.cons rfl (.cons rfl (.cons rfl (.cons rfl (.cons rfl .nil)))))) (by (exact List.Sublist.refl _)) rfl (fun i out vo hi => ?_)
    obtain ⟨hi1, hi2, hi3⟩ := hi; have hgi := grp_le (i := i) hgs; have hgj := grp_leI (i := (i : Int) - 1) hgs
    refine At.seq ?_
    refine At.seq ?_
    refine At.plain [(false, 0), (false, 1), (false, 2), (false, 3)] rfl ?_
    refine At.e rfl rfl rfl rfl .all (R.move (.t rfl)) ?_
    refine At.e rfl rfl rfl rfl .all (R.move (.t rfl)) ?_
    refine At.e rfl rfl rfl rfl .all (R.lenRd Try.underlying29 (.t rfl) (by exact wS M2)) ?_
    refine At.e rfl rfl rfl rfl .all (R.lss (.t rfl) (.t rfl)) ?_
    refine At.nil ?_
    refine At.tN ?_
    refine At.condD (.t rfl) (fun c3 => ?_) (fun c3 => ?_)
    · skip
      refine At.skip ?_
      refine At.tN ?_
      refine At.seq ?_
      refine At.block ?_
      refine At.seq ?_
      refine At.seq ?_
      refine At.drawK [(true, 0), (true, 1), (true, 2), (true, 3), (true, 4), (true, 5), (true, 6), (true, 7), (true, 8), (true, 9), (true, 10), (true, 11), (true, 12), (true, 13), (true, 14), (true, 15), (true, 16), (true, 17), (true, 18), (true, 19), (true, 20), (true, 21), (true, 22), (true, 23), (true, 24), (true, 25), (true, 26), (true, 27), (true, 28), (true, 29), (true, 30), (true, 31), (true, 32), (true, 33), (true, 34), (true, 35), (true, 36), (true, 37), (true, 38), (true, 39), (true, 40), (true, 41), (true, 42), (true, 43), (true, 44), (true, 45), (true, 46), (true, 47), (true, 48), (true, 49), (true, 50), (true, 51), (true, 52), (true, 53), (true, 54), (true, 55), (true, 56)] (by kernel_rfl) (by kernel_rfl) ?_
      refine At.s rfl rfl rfl rfl (Cl.kept fun _ h => h) (R.move (.t rfl)) ?_
      refine At.s rfl rfl rfl rfl (Cl.kept fun _ h => h) (R.move (.t rfl)) ?_
      refine At.s rfl rfl rfl rfl (Cl.kept fun _ h => h) (R.indexRd Try.underlying29 sz_22 (.t rfl) (by exact wK M2) (.t rfl) (fun hg => (by omega))) ?_
      refine At.s rfl rfl rfl rfl (Cl.kept fun _ h => h) (R.loadRd Try.underlying22 rfl (.t rfl) (by exact wK M2) (fun hg => by exact segGet (by omega))) ?_
      refine At.s rfl rfl rfl rfl (Cl.kept fun _ h => h) (R.lenRd Try.underlying22 (.t rfl) (by exact segKT (k := iK) (gs := gs) (by (apply List.Sublist.cons; apply List.Sublist.cons; apply List.Sublist.cons; exact List.Sublist.refl _)) (by omega))) ?_
      refine At.s rfl rfl rfl rfl (Cl.kept fun _ h => h) (R.eql (.t rfl) .c) ?_
      refine At.s rfl rfl rfl rfl (Cl.kept fun _ h => h) (R.move (.t rfl)) ?_
      refine At.s rfl rfl rfl rfl (Cl.kept fun _ h => h) (R.move (by exact .t rfl)) ?_
      refine At.s rfl rfl rfl rfl (Cl.kept fun _ h => h) (R.lenRd Try.underlying22 (by exact .s rfl) (by exact rK M0)) ?_
      refine At.s rfl rfl rfl rfl (Cl.kept fun _ h => h) (R.gtr (by exact .s rfl) .c) ?_
      refine At.s rfl rfl rfl rfl (Cl.kept fun _ h => h) (R.pickAnd (.t rfl) rfl (by (intro hg h; rw [h]; rfl))) ?_
      refine At.s rfl rfl rfl rfl (Cl.kept fun _ h => h) (R.move (.t rfl)) ?_
      refine At.s rfl rfl rfl rfl (Cl.kept fun _ h => h) (R.move (by exact .t rfl)) ?_
      refine At.s rfl rfl rfl rfl (Cl.kept fun _ h => h) (R.gtr (by exact .s rfl) .c) ?_
      refine At.s rfl rfl rfl rfl (Cl.kept fun _ h => h) (R.move (by exact .s rfl)) ?_
      refine At.s rfl rfl rfl rfl (Cl.kept fun _ h => h) (R.move (by exact .t rfl)) ?_
      refine At.s rfl rfl rfl rfl (Cl.kept fun _ h => h) (R.move (by exact .t rfl)) ?_
      refine At.s rfl rfl rfl rfl (Cl.kept fun _ h => h) (R.indexRd Try.underlying29 sz_22 (by exact .s rfl) (by exact wK M2) (by exact .s rfl) (fun hg => (by omega))) ?_
      refine At.s rfl rfl rfl rfl (Cl.kept fun _ h => h) (R.loadRd Try.underlying22 rfl (by exact .s rfl) (by exact wK M2) (fun hg => by exact segGet (by omega))) ?_
      refine At.s rfl rfl rfl rfl (Cl.kept fun _ h => h) (R.lenRd Try.underlying22 (by exact .s rfl) (by exact segKT (k := iK) (gs := gs) (by (apply List.Sublist.cons; apply List.Sublist.cons; apply List.Sublist.cons; exact List.Sublist.refl _)) (by omega))) ?_
      refine At.s rfl rfl rfl rfl (Cl.kept fun _ h => h) (R.gtr (by exact .s rfl) .c) ?_
      refine At.s rfl rfl rfl rfl (Cl.kept fun _ h => h) (R.pickAnd (by exact .s rfl) rfl (by (intro hg h; rw [hg, h]; rfl))) ?_
      refine At.s rfl rfl rfl rfl (Cl.kept fun _ h => h) (R.move (by exact .s rfl)) ?_
      refine At.s rfl rfl rfl rfl (Cl.kept fun _ h => h) (R.move (by exact .t rfl)) ?_
      refine At.s rfl rfl rfl rfl (Cl.kept fun _ h => h) (R.move (by exact .t rfl)) ?_
      refine At.s rfl rfl rfl rfl (Cl.kept fun _ h => h) (R.subI (by exact .s rfl) .c (fun hg => by omega)) ?_
      refine At.s rfl rfl rfl rfl (Cl.kept fun _ h => h) (R.indexRd Try.underlying29 sz_22 (by exact .s rfl) (by exact wK M2) (by exact .s rfl) (fun hg => (by ((simp [-List.length_eq_zero_iff] at hg; omega))))) ?_
      refine At.s rfl rfl rfl rfl (Cl.kept fun _ h => h) (R.loadRd Try.underlying22 rfl (by exact .s rfl) (by exact wK M2) (fun hg => by exact segGet (by ((simp [-List.length_eq_zero_iff] at hg; omega))))) ?_
      refine At.s rfl rfl rfl rfl (Cl.kept fun _ h => h) (R.lenRd Try.underlying22 (by exact .s rfl) (by exact segKT (k := iK) (gs := gs) (by (apply List.Sublist.cons; apply List.Sublist.cons; apply List.Sublist.cons; exact List.Sublist.refl _)) (by omega))) ?_
      refine At.s rfl rfl rfl rfl (Cl.kept fun _ h => h) (R.gtr (by exact .s rfl) .c) ?_
      refine At.s rfl rfl rfl rfl (Cl.kept fun _ h => h) (R.pickAnd (by exact .s rfl) rfl (by (intro hg h; rw [hg, h]; rfl))) ?_
      refine At.s rfl rfl rfl rfl (Cl.kept fun _ h => h) (R.move (by exact .s rfl)) ?_
      refine At.s rfl rfl rfl rfl (Cl.kept fun _ h => h) (R.move (by exact .t rfl)) ?_
      refine At.s rfl rfl rfl rfl (Cl.kept fun _ h => h) (R.move (by exact .t rfl)) ?_
      refine At.s rfl rfl rfl rfl (Cl.kept fun _ h => h) (R.indexRd Try.underlying29 sz_22 (by exact .s rfl) (by exact wK M2) (by exact .s rfl) (fun hg => (by omega))) ?_
      refine At.s rfl rfl rfl rfl (Cl.kept fun _ h => h) (R.loadRd Try.underlying22 rfl (by exact .s rfl) (by exact wK M2) (fun hg => by exact segGet (by omega))) ?_
      refine At.s rfl rfl rfl rfl (Cl.kept fun _ h => h) (R.indexRd Try.underlying22 sz_43 (by exact .s rfl) (by exact segKT (k := iK) (gs := gs) (by (apply List.Sublist.cons; apply List.Sublist.cons; apply List.Sublist.cons; exact List.Sublist.refl _)) (by omega)) .c (fun hg => (by ((simp [-List.length_eq_zero_iff] at hg; omega))))) ?_
      refine At.s rfl rfl rfl rfl (Cl.kept fun _ h => h) (R.fieldRd fo_43_0 (by exact .s rfl) (by exact segKT (k := iK) (gs := gs) (by (apply List.Sublist.cons; apply List.Sublist.cons; apply List.Sublist.cons; exact List.Sublist.refl _)) (by omega)) (fun hg => (by ((simp [-List.length_eq_zero_iff] at hg; omega))))) ?_
      refine At.s rfl rfl rfl rfl (Cl.kept fun _ h => h) (R.loadRd Try.underlying3 rfl (by exact .s rfl) (by exact segKT (k := iK) (gs := gs) (by (apply List.Sublist.cons; apply List.Sublist.cons; apply List.Sublist.cons; exact List.Sublist.refl _)) (by omega)) (fun hg => by exact Ek.getN rfl (by ((simp [-List.length_eq_zero_iff] at hg; omega))))) ?_
      refine At.s rfl rfl rfl rfl (Cl.kept fun _ h => h) (R.move (by exact .t rfl)) ?_
      refine At.s rfl rfl rfl rfl (Cl.kept fun _ h => h) (R.move (by exact .t rfl)) ?_
      refine At.s rfl rfl rfl rfl (Cl.kept fun _ h => h) (R.subI (by exact .s rfl) .c (fun hg => by omega)) ?_
      refine At.s rfl rfl rfl rfl (Cl.kept fun _ h => h) (R.indexRd Try.underlying29 sz_22 (by exact .s rfl) (by exact wK M2) (by exact .s rfl) (fun hg => (by ((simp [-List.length_eq_zero_iff] at hg; omega))))) ?_
      refine At.s rfl rfl rfl rfl (Cl.kept fun _ h => h) (R.loadRd Try.underlying22 rfl (by exact .s rfl) (by exact wK M2) (fun hg => by exact segGet (by ((simp [-List.length_eq_zero_iff] at hg; omega))))) ?_
      refine At.s rfl rfl rfl rfl (Cl.kept fun _ h => h) (R.move (by exact .t rfl)) ?_
      refine At.s rfl rfl rfl rfl (Cl.kept fun _ h => h) (R.move (by exact .t rfl)) ?_
      refine At.s rfl rfl rfl rfl (Cl.kept fun _ h => h) (R.subI (by exact .s rfl) .c (fun hg => by omega)) ?_
      refine At.s rfl rfl rfl rfl (Cl.kept fun _ h => h) (R.indexRd Try.underlying29 sz_22 (by exact .s rfl) (by exact wK M2) (by exact .s rfl) (fun hg => (by ((simp [-List.length_eq_zero_iff] at hg; omega))))) ?_
      refine At.s rfl rfl rfl rfl (Cl.kept fun _ h => h) (R.loadRd Try.underlying22 rfl (by exact .s rfl) (by exact wK M2) (fun hg => by exact segGet (by ((simp [-List.length_eq_zero_iff] at hg; omega))))) ?_
      refine At.s rfl rfl rfl rfl (Cl.kept fun _ h => h) (R.lenRd Try.underlying22 (by exact .s rfl) (by exact segKT (k := iK) (gs := gs) (by (apply List.Sublist.cons; apply List.Sublist.cons; apply List.Sublist.cons; exact List.Sublist.refl _)) (by omega))) ?_
      refine At.s rfl rfl rfl rfl (Cl.kept fun _ h => h) (R.subI (by exact .s rfl) .c (fun hg => by omega)) ?_
      refine At.s rfl rfl rfl rfl (Cl.kept fun _ h => h) (R.indexRd Try.underlying22 sz_43 (by exact .s rfl) (by exact segKT (k := iK) (gs := gs) (by (apply List.Sublist.cons; apply List.Sublist.cons; apply List.Sublist.cons; exact List.Sublist.refl _)) (by omega)) (by exact .s rfl) (fun hg => (by ((simp [-List.length_eq_zero_iff] at hg; omega))))) ?_
      refine At.s rfl rfl rfl rfl (Cl.kept fun _ h => h) (R.fieldRd fo_43_0 (by exact .s rfl) (by exact segKT (k := iK) (gs := gs) (by (apply List.Sublist.cons; apply List.Sublist.cons; apply List.Sublist.cons; exact List.Sublist.refl _)) (by omega)) (fun hg => (by ((simp [-List.length_eq_zero_iff] at hg; omega))))) ?_
      refine At.s rfl rfl rfl rfl (Cl.kept fun _ h => h) (R.loadRd Try.underlying3 rfl (by exact .s rfl) (by exact segKT (k := iK) (gs := gs) (by (apply List.Sublist.cons; apply List.Sublist.cons; apply List.Sublist.cons; exact List.Sublist.refl _)) (by omega)) (fun hg => by exact Ek.getN rfl (by ((simp [-List.length_eq_zero_iff] at hg; omega))))) ?_
      refine At.s rfl rfl rfl rfl (Cl.kept fun _ h => h) (R.leq (by exact .s rfl) (by exact .s rfl)) ?_
      refine At.s rfl rfl rfl rfl (Cl.kept fun _ h => h) (R.pickAnd (by exact .s rfl) rfl (by (intro hg h; rw [hg, h]; rfl))) ?_
      refine At.s rfl rfl rfl rfl (Cl.kept fun _ h => h) (R.pickOr (.t rfl) rfl (by (intro hg h; rw [h]; rfl))) ?_
      refine At.nil ?_
      refine At.tN ?_
      refine At.cond (.t rfl) (fun c4 => ?_) (fun c4 => ?_)
      · exact (keys_bad (i := i) hgs (by omega) (by simpa only [Bool.or_eq_true, Bool.and_eq_true, decide_eq_true_eq, Int.natCast_pos, Int.natCast_eq_zero] using c4)).elim
      · skip
        refine At.skip ?_
        refine At.tN ?_
        refine At.seq ?_
        refine At.seq ?_
        refine At.drawK [(true, 0), (true, 1), (true, 2), (true, 3), (true, 4), (true, 5), (true, 6), (true, 7), (true, 8), (true, 9), (true, 10), (true, 11), (true, 12), (true, 13), (true, 14), (true, 15), (true, 16), (true, 17), (true, 18), (true, 19), (true, 20), (true, 21), (true, 22), (true, 23), (true, 24), (true, 25), (true, 26), (true, 27), (true, 28), (true, 29), (true, 30)] (by kernel_rfl) (by kernel_rfl) ?_
        refine At.s rfl rfl rfl rfl (Cl.kept fun _ h => h) (R.move (.t rfl)) ?_
        refine At.s rfl rfl rfl rfl (Cl.kept fun _ h => h) (R.move (.t rfl)) ?_
        refine At.s rfl rfl rfl rfl (Cl.kept fun _ h => h) (R.indexRd Try.underlying29 sz_22 (.t rfl) (by exact wK M2) (.t rfl) (fun hg => (by omega))) ?_
        refine At.s rfl rfl rfl rfl (Cl.kept fun _ h => h) (R.loadRd Try.underlying22 rfl (.t rfl) (by exact wK M2) (fun hg => by exact segGet (by omega))) ?_
        refine At.s rfl rfl rfl rfl (Cl.kept fun _ h => h) (R.lenRd Try.underlying22 (.t rfl) (by exact segKT (k := iK) (gs := gs) (by (apply List.Sublist.cons; apply List.Sublist.cons; apply List.Sublist.cons; exact List.Sublist.refl _)) (by omega))) ?_
        refine At.s rfl rfl rfl rfl (Cl.kept fun _ h => h) (R.move (.t rfl)) ?_
        refine At.s rfl rfl rfl rfl (Cl.kept fun _ h => h) (R.quoI (.t rfl) .c (fun hg => by omega)) ?_
        refine At.s rfl rfl rfl rfl (Cl.kept fun _ h => h) (R.gtr (.t rfl) (.t rfl)) ?_
        refine At.s rfl rfl rfl rfl (Cl.kept fun _ h => h) (R.move (.t rfl)) ?_
        refine At.s rfl rfl rfl rfl (Cl.kept fun _ h => h) (R.move (by exact .t rfl)) ?_
        refine At.s rfl rfl rfl rfl (Cl.kept fun _ h => h) (R.move (by exact .t rfl)) ?_
        refine At.s rfl rfl rfl rfl (Cl.kept fun _ h => h) (R.indexRd Try.underlying29 sz_22 (by exact .s rfl) (by exact wK M2) (by exact .s rfl) (fun hg => (by omega))) ?_
        refine At.s rfl rfl rfl rfl (Cl.kept fun _ h => h) (R.loadRd Try.underlying22 rfl (by exact .s rfl) (by exact wK M2) (fun hg => by exact segGet (by omega))) ?_
        refine At.s rfl rfl rfl rfl (Cl.kept fun _ h => h) (R.indexRd Try.underlying22 sz_43 (by exact .s rfl) (by exact segKT (k := iK) (gs := gs) (by (apply List.Sublist.cons; apply List.Sublist.cons; apply List.Sublist.cons; exact List.Sublist.refl _)) (by omega)) .c (fun hg => (by ((simp [-List.length_eq_zero_iff] at hg; omega))))) ?_
        refine At.s rfl rfl rfl rfl (Cl.kept fun _ h => h) (R.fieldRd fo_43_0 (by exact .s rfl) (by exact segKT (k := iK) (gs := gs) (by (apply List.Sublist.cons; apply List.Sublist.cons; apply List.Sublist.cons; exact List.Sublist.refl _)) (by omega)) (fun hg => (by ((simp [-List.length_eq_zero_iff] at hg; omega))))) ?_
        refine At.s rfl rfl rfl rfl (Cl.kept fun _ h => h) (R.loadRd Try.underlying3 rfl (by exact .s rfl) (by exact segKT (k := iK) (gs := gs) (by (apply List.Sublist.cons; apply List.Sublist.cons; apply List.Sublist.cons; exact List.Sublist.refl _)) (by omega)) (fun hg => by exact Ek.getN rfl (by ((simp [-List.length_eq_zero_iff] at hg; omega))))) ?_
        refine At.s rfl rfl rfl rfl (Cl.kept fun _ h => h) (R.move (by exact .t rfl)) ?_
        refine At.s rfl rfl rfl rfl (Cl.kept fun _ h => h) (R.move (by exact .t rfl)) ?_
        refine At.s rfl rfl rfl rfl (Cl.kept fun _ h => h) (R.indexRd Try.underlying29 sz_22 (by exact .s rfl) (by exact wK M2) (by exact .s rfl) (fun hg => (by omega))) ?_
        refine At.s rfl rfl rfl rfl (Cl.kept fun _ h => h) (R.loadRd Try.underlying22 rfl (by exact .s rfl) (by exact wK M2) (fun hg => by exact segGet (by omega))) ?_
        refine At.s rfl rfl rfl rfl (Cl.kept fun _ h => h) (R.move (by exact .t rfl)) ?_
        refine At.s rfl rfl rfl rfl (Cl.kept fun _ h => h) (R.move (by exact .t rfl)) ?_
        refine At.s rfl rfl rfl rfl (Cl.kept fun _ h => h) (R.indexRd Try.underlying29 sz_22 (by exact .s rfl) (by exact wK M2) (by exact .s rfl) (fun hg => (by omega))) ?_
        refine At.s rfl rfl rfl rfl (Cl.kept fun _ h => h) (R.loadRd Try.underlying22 rfl (by exact .s rfl) (by exact wK M2) (fun hg => by exact segGet (by omega))) ?_
        refine At.s rfl rfl rfl rfl (Cl.kept fun _ h => h) (R.lenRd Try.underlying22 (by exact .s rfl) (by exact segKT (k := iK) (gs := gs) (by (apply List.Sublist.cons; apply List.Sublist.cons; apply List.Sublist.cons; exact List.Sublist.refl _)) (by omega))) ?_
        refine At.s rfl rfl rfl rfl (Cl.kept fun _ h => h) (R.subI (by exact .s rfl) .c (fun hg => by omega)) ?_
        refine At.s rfl rfl rfl rfl (Cl.kept fun _ h => h) (R.indexRd Try.underlying22 sz_43 (by exact .s rfl) (by exact segKT (k := iK) (gs := gs) (by (apply List.Sublist.cons; apply List.Sublist.cons; apply List.Sublist.cons; exact List.Sublist.refl _)) (by omega)) (by exact .s rfl) (fun hg => (by ((simp [-List.length_eq_zero_iff] at hg; omega))))) ?_
        refine At.s rfl rfl rfl rfl (Cl.kept fun _ h => h) (R.fieldRd fo_43_0 (by exact .s rfl) (by exact segKT (k := iK) (gs := gs) (by (apply List.Sublist.cons; apply List.Sublist.cons; apply List.Sublist.cons; exact List.Sublist.refl _)) (by omega)) (fun hg => (by ((simp [-List.length_eq_zero_iff] at hg; omega))))) ?_
        refine At.s rfl rfl rfl rfl (Cl.kept fun _ h => h) (R.loadRd Try.underlying3 rfl (by exact .s rfl) (by exact segKT (k := iK) (gs := gs) (by (apply List.Sublist.cons; apply List.Sublist.cons; apply List.Sublist.cons; exact List.Sublist.refl _)) (by omega)) (fun hg => by exact Ek.getN rfl (by ((simp [-List.length_eq_zero_iff] at hg; omega))))) ?_
        refine At.s rfl rfl rfl rfl (Cl.kept fun _ h => h) (R.neq (by exact .s rfl) (by exact .s rfl)) ?_
        refine At.s rfl rfl rfl rfl (Cl.kept fun _ h => h) (R.pickAnd (.t rfl) rfl (by (intro hg h; rw [h]; rfl))) ?_
        refine At.nil ?_
        refine At.tN ?_
        refine At.cond (.t rfl) (fun c5 => ?_) (fun c5 => ?_)
        · exact (keys_big (i := i) hgs (by omega) (by omega) (by simpa only [Bool.or_eq_true, Bool.and_eq_true, decide_eq_true_eq, Bool.not_eq_true', decide_eq_false_iff_not] using c5)).elim
        · skip
          refine At.skip ?_
          refine At.tN ?_
          refine At.plain [(false, 0), (false, 1), (false, 2), (false, 3), (false, 4), (false, 5), (false, 6)] rfl ?_
          refine At.e rfl rfl rfl rfl .all (R.move (.t rfl)) ?_
          refine At.e rfl rfl rfl rfl .all (R.move (.t rfl)) ?_
          refine At.e rfl rfl rfl rfl .all (R.move (.t rfl)) ?_
          refine At.e rfl rfl rfl rfl .all (R.indexRd Try.underlying29 sz_22 (.t rfl) (by exact wS M2) (.t rfl) (fun hg => (by omega))) ?_
          refine At.e rfl rfl rfl rfl .all (R.loadRd Try.underlying22 rfl (.t rfl) (by exact wS M2) (fun hg => by exact segGet (by omega))) ?_
          refine At.app (k := iK) rfl rfl rfl Try.underlying22 et_43 (.t rfl) (.t rfl) (fun _ => by (exact U0)) (by exact segST (k := iK) (gs := gs) (by (apply List.Sublist.cons; apply List.Sublist.cons; apply List.Sublist.cons; exact List.Sublist.refl _)) (by omega)) (by (constructor <;> omega)) (fun v2 => ⟨.all, ?_⟩)
          refine At.e rfl rfl rfl rfl .all (R.assign (.t rfl)) ?_
          refine At.nil ?_
          refine At.bN ?_
          refine At.tN ?_
          refine At.plain [(false, 0), (false, 1), (false, 2)] rfl ?_
          refine At.e rfl rfl rfl rfl .all (R.move (.t rfl)) ?_
          refine At.e rfl rfl rfl rfl .all (R.addI (.t rfl) .c (fun hg => by omega)) ?_
          refine At.e rfl rfl rfl rfl .all (R.assign (.t rfl)) ?_
          refine At.nil ?_
          refine At.tN ?_
          exact At.again3 (i + 1) (out ++ (gE gs (i : Int)).2) (v2) ⟨by omega, by rw [hi2, gsAt hgs, flat_step (by omega)], by simp; omega⟩ (by omega) (.cons rfl (.cons rfl (.cons rfl (.cons rfl (.cons rfl (.cons rfl .nil)))))) (by (exact List.Sublist.refl _)) rfl
    · skip
      refine At.exit ?_
      refine At.tE ?_
      refine At.tE ?_
      refine At.bE ?_
      refine At.tN ?_
      refine At.seq ?_
      have hall : out = sortF l := (by rw [hi2, List.take_of_length_le (by omega)]; exact grp_flat)
      refine At.plain [(false, 0), (false, 1), (false, 2), (false, 3), (false, 4), (false, 5), (false, 6), (false, 7), (false, 8)] rfl ?_
      refine At.e rfl rfl rfl rfl .all (R.move (.t rfl)) ?_
      refine At.e rfl rfl rfl rfl .all (R.lenRd Try.underlying29 (.t rfl) (by exact wS M2)) ?_
      refine At.e rfl rfl rfl rfl .all (R.as (R.geq (.t rfl) .c) (fun _ => congrArg Value.bool (decide_eq_true (by omega)))) ?_
      refine At.e rfl rfl rfl rfl .all (R.move (.t rfl)) ?_
      refine At.e rfl rfl rfl rfl .all (R.move (by exact .t rfl)) ?_
      refine At.e rfl rfl rfl rfl .all (R.move (by exact .t rfl)) ?_
      refine At.callVR rfl rfl rfl (.cons (by exact .t rfl) (.cons (by exact .t rfl) .nil)) (by (exact .cons (by (exact wS M1)) (.cons (by (exact wS M3)) .nil))) (fun hg => c_SameItemsT hall) .all ?_
      refine At.e rfl rfl rfl rfl .all (R.pickT (.t rfl) (.t rfl)) ?_
      refine At.e rfl rfl rfl rfl .all (R.assign (.t rfl)) ?_
      refine At.nil ?_
      refine At.tN ?_
      refine At.ret ?_
      exact At.final rfl (.t rfl) (List.nil_sublist _) (⟨congrArg Value.bool (by rfl), rfl, rfl⟩)

end Go.Proofs.Ytejpanipdjknjaa
