/- LGroupMins -/
import Derived.Test.YtejpanipdjknjaaL9
namespace Go.Proofs.Ytejpanipdjknjaa
open Go Go.RowKit
set_option maxRecDepth 10000
set_option linter.unusedVariables false



theorem mins_lt {h least : Int} {l : List Itm} {gs : List (SV × List Itm)} {M : List Int} {i : Nat} (hgl : gs.length = (grpF h l).length) (hMA : ∀ i : Nat, i < gs.length → gE M (i : Int) = minG least (grpF h l) i) (hm : ∀ x ∈ l, least ≤ x.key) (h1 : 1 ≤ i) (hi : i < gs.length) : gE M ((i : Int) - 1) < gE M (i : Int) := by
  rw [show (i : Int) - 1 = ((i - 1 : Nat) : Int) by omega, hMA _ (by omega), hMA _ hi]
  exact grp_mins hm h1 (by omega)
theorem l_GroupMins {u : Value} {l : List Itm} {cells least : Int} (hc : 0 ≤ cells ∧ cells ≤ 255) (hl : 0 ≤ least ∧ least ≤ 255) : Fn Try.prog 7 [u, .int .u8 cells, .int .u8 least] [rdE iK u l] [] (IsV (.bool true)) := by
  refine Fn.enter Try.func7 (by kernel_rfl) rfl (n := 108) rfl rfl (fun w => ?_)
  refine At.len (v := u) (by (exact rS M0)) (fun hl1 => ?_)
  have hsl := sortF_length l
  refine At.seq ?_
  refine At.plain [(false, 0)] rfl ?_
  refine At.e rfl rfl rfl rfl .all (R.assign .c) ?_
  refine At.nil ?_
  refine At.tN ?_
  refine At.seq ?_
  refine At.seq ?_
  refine At.plain [(false, 0), (false, 1)] rfl ?_
  refine At.callVR rfl rfl rfl .nil (by (exact .nil)) (fun hg => c_known9) .all ?_
  refine At.e rfl rfl rfl rfl .all (R.not (.t rfl)) ?_
  refine At.nil ?_
  refine At.tN ?_
  refine At.condF (.t rfl) ?_
  refine At.skip ?_
  refine At.tN ?_
  refine At.seq ?_
  refine At.seq ?_
  refine At.plain [(false, 0), (false, 1), (false, 2)] rfl ?_
  refine At.e rfl rfl rfl rfl .all (R.move (.t rfl)) ?_
  refine At.e rfl rfl rfl rfl .all (R.lenRd Try.underlying22 (.t rfl) (by exact rS M0)) ?_
  refine At.e rfl rfl rfl rfl .all (R.gtr (.t rfl) .c) ?_
  refine At.nil ?_
  refine At.tN ?_
  refine At.condD (.t rfl) (fun c2 => ?_) (fun c2 => ?_)
  · skip
    refine At.seq ?_
    refine At.plain [(false, 0)] rfl ?_
    refine At.e rfl rfl rfl rfl .all (R.assign .c) ?_
    refine At.nil ?_
    refine At.tN ?_
    refine At.ret ?_
    refine At.tR ?_
    exact At.final rfl (.t rfl) (List.nil_sublist _) (⟨congrArg Value.bool (by rfl), rfl, rfl⟩)
  · have hq : l.length ≤ 40 := (by omega)
    refine At.skip ?_
    refine At.tN ?_
    refine At.seq ?_
    refine At.seq ?_
    refine At.plain [(false, 0)] rfl ?_
    refine At.e rfl rfl rfl rfl .all (R.assign .c) ?_
    refine At.nil ?_
    refine At.tN ?_
    refine At.block ?_
    refine At.loop1 (fun (j : Nat) => j ≤ l.length ∧ ∀ x ∈ l.take j, least ≤ x.key) (fun (j : Nat) => l.length - j) (fun (j : Nat) => [(0, true, u), (1, true, .int .u8 cells), (2, true, .int .u8 least), (7, true, .int .i64 j)]) (fun (j : Nat) => []) (fun (j : Nat) => []) (0) ⟨Nat.zero_le _, by simp⟩ (.cons rfl (.cons rfl (.cons rfl (.cons rfl .nil)))) (by (exact List.Sublist.refl _)) rfl (fun j hi => ?_)
    obtain ⟨hj1, hj2⟩ := hi
    refine At.seq ?_
    refine At.seq ?_
    refine At.plain [(false, 0), (false, 1), (false, 2), (false, 3)] rfl ?_
    refine At.e rfl rfl rfl rfl .all (R.move (.t rfl)) ?_
    refine At.e rfl rfl rfl rfl .all (R.move (.t rfl)) ?_
    refine At.e rfl rfl rfl rfl .all (R.lenRd Try.underlying22 (.t rfl) (by exact rS M0)) ?_
    refine At.e rfl rfl rfl rfl .all (R.lss (.t rfl) (.t rfl)) ?_
    refine At.nil ?_
    refine At.tN ?_
    refine At.condD (.t rfl) (fun c3 => ?_) (fun c3 => ?_)
    · skip
      refine At.skip ?_
      refine At.tN ?_
      refine At.seq ?_
      refine At.block ?_
      refine At.seq ?_
      refine At.plain [(false, 0), (false, 1), (false, 2), (false, 3), (false, 4), (false, 5), (false, 6), (false, 7)] rfl ?_
      refine At.e rfl rfl rfl rfl .all (R.move (.t rfl)) ?_
      refine At.e rfl rfl rfl rfl .all (R.move (.t rfl)) ?_
      refine At.e rfl rfl rfl rfl .all (R.indexRd Try.underlying22 sz_43 (.t rfl) (by exact rS M0) (.t rfl) (fun hg => (by omega))) ?_
      refine At.e rfl rfl rfl rfl .all (R.fieldRd fo_43_0 (.t rfl) (by exact rS M0) (fun hg => (by omega))) ?_
      refine At.e rfl rfl rfl rfl .all (R.loadRd Try.underlying3 rfl (.t rfl) (by exact rS M0) (fun hg => by exact Ek.getN rfl (by omega))) ?_
      refine At.e rfl rfl rfl rfl .all (R.move (.t rfl)) ?_
      refine At.e rfl rfl rfl rfl .all (R.as (R.conv Try.underlying5 Try.underlying3 (.t rfl)) (fun _ => congrArg (Value.int .i64) (IntWalk.i64_in _ (by omega)))) ?_
      refine At.e rfl rfl rfl rfl .all (R.lss (.t rfl) (.t rfl)) ?_
      refine At.nil ?_
      refine At.tN ?_
      refine At.condD (.t rfl) (fun c4 => ?_) (fun c4 => ?_)
      · skip
        refine At.seq ?_
        refine At.plain [(false, 0)] rfl ?_
        refine At.e rfl rfl rfl rfl .all (R.assign .c) ?_
        refine At.nil ?_
        refine At.tN ?_
        refine At.ret ?_
        refine At.bR ?_
        refine At.tR ?_
        refine At.tR ?_
        refine At.bR ?_
        refine At.tR ?_
        exact At.final rfl (.t rfl) (List.nil_sublist _) (⟨congrArg Value.bool (by rfl), rfl, rfl⟩)
      · skip
        refine At.skip ?_
        refine At.bN ?_
        refine At.tN ?_
        refine At.plain [(false, 0), (false, 1), (false, 2)] rfl ?_
        refine At.e rfl rfl rfl rfl .all (R.move (.t rfl)) ?_
        refine At.e rfl rfl rfl rfl .all (R.addI (.t rfl) .c (fun hg => by omega)) ?_
        refine At.e rfl rfl rfl rfl .all (R.assign (.t rfl)) ?_
        refine At.nil ?_
        refine At.tN ?_
        exact At.again1 (j + 1) ⟨by omega, fun x hx => by rw [take_snoc (by omega)] at hx; rcases List.mem_append.1 hx with h | h; exact hj2 x h; simp at h; subst h; omega⟩ (by omega) (.cons rfl (.cons rfl (.cons rfl (.cons rfl .nil)))) (by (exact List.Sublist.refl _)) rfl
    · have hm : ∀ x ∈ l, least ≤ x.key := (by rw [List.take_of_length_le (by omega)] at hj2; exact hj2)
      refine At.exit ?_
      refine At.tE ?_
      refine At.tE ?_
      refine At.bE ?_
      refine At.tN ?_
      refine At.seq ?_
      refine At.plain [(false, 0), (false, 1), (false, 2), (false, 3), (false, 4), (false, 5), (false, 6), (false, 7)] rfl ?_
      refine At.e rfl rfl rfl rfl .all (R.move (.t rfl)) ?_
      refine At.callRF rfl rfl rfl (.cons (.t rfl) .nil) (by (exact .cons (by (exact rS M0)) .nil)) (c_rSort (by omega)) (fun v1 => ⟨.all, ?_⟩)
      refine At.e rfl rfl rfl rfl .all (R.move (.t rfl)) ?_
      refine At.e rfl rfl rfl rfl .all (R.remI (.t rfl) .c (fun hg => by omega)) ?_
      refine At.e rfl rfl rfl rfl .all (R.as (R.conv Try.underlying5 Try.underlying3 (.t rfl)) (fun _ => congrArg (Value.int .i64) (IntWalk.i64_in _ (by omega)))) ?_
      refine At.e rfl rfl rfl rfl .all (R.addI (.t rfl) .c (fun hg => by omega)) ?_
      refine At.callRG rfl rfl rfl (.cons (.t rfl) (.cons (.t rfl) .nil)) (by (exact .cons (by (exact wS M1)) .nil)) (c_Split (l := sortF l) (by omega)) (fun vg gs hgs => ⟨.all, ?_⟩); rw [split_is, half_is (by omega)] at hgs; have hgl := gsLen hgs; have hml : (gs.map (·.1)).length = gs.length := List.length_map _; have hg0 := grp_pos (h := (cells % 15 + 2) / 2) (l := l); have hgn := grp_len (h := (cells % 15 + 2) / 2) (l := l)
      refine At.e rfl rfl rfl rfl .all (R.assign (.t rfl)) ?_
      refine At.nil ?_
      refine At.tN ?_
      refine At.seq ?_
      refine At.plain [(false, 0), (false, 1), (false, 2), (false, 3), (false, 4)] rfl ?_
      refine At.e rfl rfl rfl rfl .all (R.move (.t rfl)) ?_
      refine At.e rfl rfl rfl rfl .all (R.as (R.conv Try.underlying5 Try.underlying3 (.t rfl)) (fun _ => congrArg (Value.int .i64) (IntWalk.i64_in _ (by omega)))) ?_
      refine At.e rfl rfl rfl rfl .all (R.move (.t rfl)) ?_
      refine At.callRF rfl rfl rfl (.cons (.t rfl) (.cons (.t rfl) .nil)) (Rds.ofSeg (Eo := 0) (E := 0) (by (exact wS M1)) (segAll (E := 43) (by (apply List.Sublist.cons; apply List.Sublist.cons; exact List.Sublist.refl _)))) (c_Mins (gs := asN gs) (by rw [asN_len]; omega)) (fun vm => ⟨.all, ?_⟩); obtain ⟨M, hM⟩ : ∃ M, M = minsF least (asN gs) (asN gs).length := ⟨_, rfl⟩; rw [← hM]; have hML : M.length = gs.length := (by rw [hM, minsF_len, asN_len]); have hMA : ∀ i : Nat, i < gs.length → gE M (i : Int) = minG least (grpF ((cells % 15 + 2) / 2) l) i := (fun i hi => by rw [hM, minsF_at (by rw [asN_len]; exact hi), asN_snd, hgs]); have hM0 : gE M 0 = least := hMA 0 (by omega)
      refine At.e rfl rfl rfl rfl .all (R.assign (.t rfl)) ?_
      refine At.nil ?_
      refine At.tN ?_
      refine At.seq ?_
      refine At.seq ?_
      refine At.plain [(false, 0), (false, 1), (false, 2), (false, 3), (false, 4), (false, 5), (false, 6), (false, 7), (false, 8), (false, 9), (false, 10), (false, 11), (false, 12)] rfl ?_
      refine At.e rfl rfl rfl rfl .all (R.move (.t rfl)) ?_
      refine At.e rfl rfl rfl rfl .all (R.lenRd Try.underlying32 (.t rfl) (by exact wS M1)) ?_
      refine At.e rfl rfl rfl rfl .all (R.move (.t rfl)) ?_
      refine At.e rfl rfl rfl rfl .all (R.lenRd Try.underlying29 (.t rfl) (by exact wS M2)) ?_
      refine At.e rfl rfl rfl rfl .all (R.as (R.neq (.t rfl) (.t rfl)) (fun _ => congrArg Value.bool (congrArg Bool.not (decide_eq_true (by omega))))) ?_
      refine At.e rfl rfl rfl rfl .all (R.move (.t rfl)) ?_
      refine At.e rfl rfl rfl rfl .all (R.move (by exact .t rfl)) ?_
      refine At.e rfl rfl rfl rfl .all (R.indexRd Try.underlying32 sz_3 (by exact .t rfl) (by exact wS M1) .c (fun hg => (by omega))) ?_
      refine At.e rfl rfl rfl rfl .all (R.loadRd Try.underlying3 rfl (by exact .t rfl) (by exact wS M1) (fun hg => by exact Ek.get0 rfl (by omega))) ?_
      refine At.e rfl rfl rfl rfl .all (R.move (by exact .t rfl)) ?_
      refine At.e rfl rfl rfl rfl .all (R.as (R.conv Try.underlying5 Try.underlying3 (by exact .t rfl)) (fun _ => congrArg (Value.int .i64) (IntWalk.i64_in _ (by omega)))) ?_
      refine At.e rfl rfl rfl rfl .all (R.neq (by exact .t rfl) (by exact .t rfl)) ?_
      refine At.e rfl rfl rfl rfl .all (R.pickF (.t rfl) (.t rfl)) ?_
      refine At.nil ?_
      refine At.tN ?_
      refine At.condN (.t rfl) (fun c5 => ?_) (fun c5 => ?_)
      · exact absurd c5 (by simp [hM0])
      · skip
        refine At.skip ?_
        refine At.tN ?_
        refine At.seq ?_
        refine At.seq ?_
        refine At.plain [(false, 0)] rfl ?_
        refine At.e rfl rfl rfl rfl .all (R.assign .c) ?_
        refine At.nil ?_
        refine At.tN ?_
        refine At.block ?_
        refine At.loop1 (fun (i : Nat) => 1 ≤ i ∧ i ≤ gs.length) (fun (i : Nat) => gs.length - i) (fun (i : Nat) => [(8, true, vg), (9, true, vm), (10, true, .int .i64 i)]) (fun (i : Nat) => rowE zK 3 vm M :: rowE sK 22 vg (gs.map (·.1)) :: rowE iK 43 v1 (sortF l) :: seg iK 43 gs) (fun (i : Nat) => []) (1) ⟨Nat.le_refl _, by omega⟩ (.cons rfl (.cons rfl (.cons rfl .nil))) (by (exact List.Sublist.refl _)) rfl (fun i hi => ?_)
        obtain ⟨hi1, hi2⟩ := hi
        refine At.seq ?_
        refine At.seq ?_
        refine At.plain [(false, 0), (false, 1), (false, 2), (false, 3)] rfl ?_
        refine At.e rfl rfl rfl rfl .all (R.move (.t rfl)) ?_
        refine At.e rfl rfl rfl rfl .all (R.move (.t rfl)) ?_
        refine At.e rfl rfl rfl rfl .all (R.lenRd Try.underlying32 (.t rfl) (by exact wS M1)) ?_
        refine At.e rfl rfl rfl rfl .all (R.lss (.t rfl) (.t rfl)) ?_
        refine At.nil ?_
        refine At.tN ?_
        refine At.condD (.t rfl) (fun c6 => ?_) (fun c6 => ?_)
        · have hlt : gE M ((i : Int) - 1) < gE M (i : Int) := mins_lt hgl hMA hm hi1 (by omega); have heq : gE M (i : Int) = (gE (gE gs (i : Int)).2 0).key := (by rw [hMA i (by omega), grp_min hi1 (by omega), gsAt hgs]); have hgi := grp_gt (h := (cells % 15 + 2) / 2) (grp_two (h := (cells % 15 + 2) / 2) (l := l) (by omega)) (i := i) (by omega); rw [← gsAt hgs] at hgi
          refine At.skip ?_
          refine At.tN ?_
          refine At.seq ?_
          refine At.block ?_
          refine At.seq ?_
          refine At.drawK [(true, 0), (true, 1), (true, 2), (true, 3), (true, 4), (true, 5), (true, 6), (true, 7), (true, 8), (true, 9), (true, 10), (true, 11), (true, 12), (true, 13), (true, 14), (true, 15), (true, 16), (true, 17), (true, 18), (true, 19), (true, 20), (true, 21), (true, 22), (true, 23), (true, 24), (true, 25), (true, 26), (true, 27), (true, 28), (true, 29), (true, 30), (true, 31), (true, 32), (true, 33), (true, 34), (true, 35), (true, 36), (true, 37), (true, 38), (true, 39), (true, 40), (true, 41), (true, 42), (true, 43), (true, 44), (true, 45), (true, 46), (true, 47)] (by kernel_rfl) (by kernel_rfl) ?_
          refine At.s rfl rfl rfl rfl (Cl.kept fun _ h => h) (R.move (.t rfl)) ?_
          refine At.s rfl rfl rfl rfl (Cl.kept fun _ h => h) (R.move (.t rfl)) ?_
          refine At.s rfl rfl rfl rfl (Cl.kept fun _ h => h) (R.indexRd Try.underlying32 sz_3 (.t rfl) (by exact wK M1) (.t rfl) (fun hg => (by omega))) ?_
          refine At.s rfl rfl rfl rfl (Cl.kept fun _ h => h) (R.loadRd Try.underlying3 rfl (.t rfl) (by exact wK M1) (fun hg => by exact Ek.get0 rfl (by omega))) ?_
          refine At.s rfl rfl rfl rfl (Cl.kept fun _ h => h) (R.move (.t rfl)) ?_
          refine At.s rfl rfl rfl rfl (Cl.kept fun _ h => h) (R.move (.t rfl)) ?_
          refine At.s rfl rfl rfl rfl (Cl.kept fun _ h => h) (R.subI (.t rfl) .c (fun hg => by omega)) ?_
          refine At.s rfl rfl rfl rfl (Cl.kept fun _ h => h) (R.indexRd Try.underlying32 sz_3 (.t rfl) (by exact wK M1) (.t rfl) (fun hg => (by omega))) ?_
          refine At.s rfl rfl rfl rfl (Cl.kept fun _ h => h) (R.loadRd Try.underlying3 rfl (.t rfl) (by exact wK M1) (fun hg => by exact Ek.get0 rfl (by omega))) ?_
          refine At.s rfl rfl rfl rfl (Cl.kept fun _ h => h) (R.leq (.t rfl) (.t rfl)) ?_
          refine At.s rfl rfl rfl rfl (Cl.kept fun _ h => h) (R.move (.t rfl)) ?_
          refine At.s rfl rfl rfl rfl (Cl.kept fun _ h => h) (R.move (by exact .t rfl)) ?_
          refine At.s rfl rfl rfl rfl (Cl.kept fun _ h => h) (R.eql (by exact .s rfl) .c) ?_
          refine At.s rfl rfl rfl rfl (Cl.kept fun _ h => h) (R.move (by exact .s rfl)) ?_
          refine At.s rfl rfl rfl rfl (Cl.kept fun _ h => h) (R.move (by exact .t rfl)) ?_
          refine At.s rfl rfl rfl rfl (Cl.kept fun _ h => h) (R.indexRd Try.underlying29 sz_22 (by exact .s rfl) (by exact wK M2) .c (fun hg => (by omega))) ?_
          refine At.s rfl rfl rfl rfl (Cl.kept fun _ h => h) (R.loadRd Try.underlying22 rfl (by exact .s rfl) (by exact wK M2) (fun hg => by exact segGet (by omega))) ?_
          refine At.s rfl rfl rfl rfl (Cl.kept fun _ h => h) (R.lenRd Try.underlying22 (by exact .s rfl) (by exact segKT (k := iK) (gs := gs) (by (apply List.Sublist.cons; apply List.Sublist.cons; apply List.Sublist.cons; exact List.Sublist.refl _)) (by omega))) ?_
          refine At.s rfl rfl rfl rfl (Cl.kept fun _ h => h) (R.gtr (by exact .s rfl) .c) ?_
          refine At.s rfl rfl rfl rfl (Cl.kept fun _ h => h) (R.pickAnd (by exact .s rfl) rfl (by (intro hg h; rw [hg, h]; rfl))) ?_
          refine At.s rfl rfl rfl rfl (Cl.kept fun _ h => h) (R.move (by exact .s rfl)) ?_
          refine At.s rfl rfl rfl rfl (Cl.kept fun _ h => h) (R.move (by exact .t rfl)) ?_
          refine At.s rfl rfl rfl rfl (Cl.kept fun _ h => h) (R.indexRd Try.underlying32 sz_3 (by exact .s rfl) (by exact wK M1) .c (fun hg => (by omega))) ?_
          refine At.s rfl rfl rfl rfl (Cl.kept fun _ h => h) (R.loadRd Try.underlying3 rfl (by exact .s rfl) (by exact wK M1) (fun hg => by exact Ek.get0 rfl (by omega))) ?_
          refine At.s rfl rfl rfl rfl (Cl.kept fun _ h => h) (R.move (by exact .t rfl)) ?_
          refine At.s rfl rfl rfl rfl (Cl.kept fun _ h => h) (R.indexRd Try.underlying29 sz_22 (by exact .s rfl) (by exact wK M2) .c (fun hg => (by omega))) ?_
          refine At.s rfl rfl rfl rfl (Cl.kept fun _ h => h) (R.loadRd Try.underlying22 rfl (by exact .s rfl) (by exact wK M2) (fun hg => by exact segGet (by omega))) ?_
          refine At.s rfl rfl rfl rfl (Cl.kept fun _ h => h) (R.indexRd Try.underlying22 sz_43 (by exact .s rfl) (by exact segKT (k := iK) (gs := gs) (by (apply List.Sublist.cons; apply List.Sublist.cons; apply List.Sublist.cons; exact List.Sublist.refl _)) (by omega)) .c (fun hg => (by ((simp [-List.length_eq_zero_iff] at hg; omega))))) ?_
          refine At.s rfl rfl rfl rfl (Cl.kept fun _ h => h) (R.fieldRd fo_43_0 (by exact .s rfl) (by exact segKT (k := iK) (gs := gs) (by (apply List.Sublist.cons; apply List.Sublist.cons; apply List.Sublist.cons; exact List.Sublist.refl _)) (by omega)) (fun hg => (by ((simp [-List.length_eq_zero_iff] at hg; omega))))) ?_
          refine At.s rfl rfl rfl rfl (Cl.kept fun _ h => h) (R.loadRd Try.underlying3 rfl (by exact .s rfl) (by exact segKT (k := iK) (gs := gs) (by (apply List.Sublist.cons; apply List.Sublist.cons; apply List.Sublist.cons; exact List.Sublist.refl _)) (by omega)) (fun hg => by exact Ek.getN rfl (by ((simp [-List.length_eq_zero_iff] at hg; omega))))) ?_
          refine At.s rfl rfl rfl rfl (Cl.kept fun _ h => h) (R.gtr (by exact .s rfl) (by exact .s rfl)) ?_
          refine At.s rfl rfl rfl rfl (Cl.kept fun _ h => h) (R.pickAnd (by exact .s rfl) rfl (by (intro hg h; rw [hg, h]; rfl))) ?_
          refine At.s rfl rfl rfl rfl (Cl.kept fun _ h => h) (R.not (by exact .s rfl)) ?_
          refine At.s rfl rfl rfl rfl (Cl.kept fun _ h => h) (R.pickAnd (.t rfl) rfl (by (intro hg h; rw [h]; rfl))) ?_
          refine At.s rfl rfl rfl rfl (Cl.kept fun _ h => h) (R.move (.t rfl)) ?_
          refine At.s rfl rfl rfl rfl (Cl.kept fun _ h => h) (R.move (by exact .t rfl)) ?_
          refine At.s rfl rfl rfl rfl (Cl.kept fun _ h => h) (R.move (by exact .t rfl)) ?_
          refine At.s rfl rfl rfl rfl (Cl.kept fun _ h => h) (R.indexRd Try.underlying32 sz_3 (by exact .s rfl) (by exact wK M1) (by exact .s rfl) (fun hg => (by omega))) ?_
          refine At.s rfl rfl rfl rfl (Cl.kept fun _ h => h) (R.loadRd Try.underlying3 rfl (by exact .s rfl) (by exact wK M1) (fun hg => by exact Ek.get0 rfl (by omega))) ?_
          refine At.s rfl rfl rfl rfl (Cl.kept fun _ h => h) (R.move (by exact .t rfl)) ?_
          refine At.s rfl rfl rfl rfl (Cl.kept fun _ h => h) (R.move (by exact .t rfl)) ?_
          refine At.s rfl rfl rfl rfl (Cl.kept fun _ h => h) (R.indexRd Try.underlying29 sz_22 (by exact .s rfl) (by exact wK M2) (by exact .s rfl) (fun hg => (by omega))) ?_
          refine At.s rfl rfl rfl rfl (Cl.kept fun _ h => h) (R.loadRd Try.underlying22 rfl (by exact .s rfl) (by exact wK M2) (fun hg => by exact segGet (by omega))) ?_
          refine At.s rfl rfl rfl rfl (Cl.kept fun _ h => h) (R.indexRd Try.underlying22 sz_43 (by exact .s rfl) (by exact segKT (k := iK) (gs := gs) (by (apply List.Sublist.cons; apply List.Sublist.cons; apply List.Sublist.cons; exact List.Sublist.refl _)) (by omega)) .c (fun hg => (by omega))) ?_
          refine At.s rfl rfl rfl rfl (Cl.kept fun _ h => h) (R.fieldRd fo_43_0 (by exact .s rfl) (by exact segKT (k := iK) (gs := gs) (by (apply List.Sublist.cons; apply List.Sublist.cons; apply List.Sublist.cons; exact List.Sublist.refl _)) (by omega)) (fun hg => (by omega))) ?_
          refine At.s rfl rfl rfl rfl (Cl.kept fun _ h => h) (R.loadRd Try.underlying3 rfl (by exact .s rfl) (by exact segKT (k := iK) (gs := gs) (by (apply List.Sublist.cons; apply List.Sublist.cons; apply List.Sublist.cons; exact List.Sublist.refl _)) (by omega)) (fun hg => by exact Ek.getN rfl (by omega))) ?_
          refine At.s rfl rfl rfl rfl (Cl.kept fun _ h => h) (R.neq (by exact .s rfl) (by exact .s rfl)) ?_
          refine At.s rfl rfl rfl rfl (Cl.kept fun _ h => h) (R.pickOr (.t rfl) rfl (by (intro hg h; rw [h]; rfl))) ?_
          refine At.nil ?_
          refine At.tN ?_
          refine At.cond (.t rfl) (fun c7 => ?_) (fun c7 => ?_)
          · exact absurd c7 (by rw [decide_eq_false (show ¬ gE M (i : Int) ≤ gE M ((i : Int) - 1) by omega), decide_eq_true heq]; simp)
          · skip
            refine At.skip ?_
            refine At.bN ?_
            refine At.tN ?_
            refine At.plain [(false, 0), (false, 1), (false, 2)] rfl ?_
            refine At.e rfl rfl rfl rfl .all (R.move (.t rfl)) ?_
            refine At.e rfl rfl rfl rfl .all (R.addI (.t rfl) .c (fun hg => by omega)) ?_
            refine At.e rfl rfl rfl rfl .all (R.assign (.t rfl)) ?_
            refine At.nil ?_
            refine At.tN ?_
            exact At.again1 (i + 1) (by omega) (by omega) (.cons rfl (.cons rfl (.cons rfl .nil))) (by (exact List.Sublist.refl _)) rfl
        · skip
          refine At.exit ?_
          refine At.tE ?_
          refine At.tE ?_
          refine At.bE ?_
          refine At.tN ?_
          refine At.seq ?_
          refine At.plain [(false, 0)] rfl ?_
          refine At.e rfl rfl rfl rfl .all (R.assign .c) ?_
          refine At.nil ?_
          refine At.tN ?_
          refine At.ret ?_
          exact At.final rfl (.t rfl) (List.nil_sublist _) (⟨congrArg Value.bool (by rfl), rfl, rfl⟩)

end Go.Proofs.Ytejpanipdjknjaa
