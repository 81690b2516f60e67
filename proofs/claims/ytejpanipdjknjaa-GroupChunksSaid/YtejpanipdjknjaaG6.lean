/- G6 -/
import Derived.Test.YtejpanipdjknjaaGrpP
namespace Go.Proofs.Ytejpanipdjknjaa
open Go Go.RowKit
set_option maxRecDepth 10000
set_option linter.unusedVariables false
theorem et_22 : elemTab Try.prog 22 = some (1, 24) := by kernel_rfl
theorem sz_22 : (Try.prog.info? 22).map (·.size) = some 1 := by kernel_rfl


/-- A contract: new rows of rows. -/
def IsG (Eo E : TypeId) (G : List (List Itm)) : Value → Hp → Hp → Prop := fun v N H => ∃ gs : List (SV × List Itm), gs.map (·.2) = G ∧ N = rowE sK Eo v (gs.map (·.1)) :: seg iK E gs ∧ H = []
theorem c_rSplit {u : Value} {l : List Itm} {cells : Int} (hL : l.length ≤ 1000) : Fn Try.prog 18 [u, .int .i64 cells] [rdE iK u l] [] (IsG 22 43 (splitR (max 2 (min cells 16) / 2) [[]] l)) := by
  refine Fn.enter Try.func18 (by kernel_rfl) rfl (n := 81) rfl rfl (fun w => ?_)
  refine At.len (v := u) (by (exact rS M0)) (fun hl1 => ?_)
  refine At.seq ?_
  refine At.plain [(false, 0)] rfl ?_
  refine At.e rfl rfl rfl rfl .all (R.assign .c) ?_
  refine At.nil ?_
  refine At.tN ?_
  refine At.seq ?_
  refine At.plain [(false, 0), (false, 1), (false, 2), (false, 3), (false, 4)] rfl ?_
  refine At.e rfl rfl rfl rfl .all (R.move (.t rfl)) ?_
  refine At.e rfl rfl rfl rfl .all (R.min2 (.t rfl) .c) ?_
  refine At.e rfl rfl rfl rfl .all (R.max2 .c (.t rfl)) ?_
  refine At.e rfl rfl rfl rfl .all (R.quoI (.t rfl) .c (fun hg => by omega)) ?_
  refine At.e rfl rfl rfl rfl .all (R.assign (.t rfl)) ?_
  refine At.nil ?_
  refine At.tN ?_
  refine At.seq ?_
  refine At.plain [(false, 0), (false, 1)] rfl ?_
  refine At.lit (k := sK) rfl rfl rfl Try.underlying29 et_22 (.cons .c .nil) (.cons (y := ⟨.slice none 0 0, rfl⟩) rfl .nil) rfl rfl rfl (fun v1 => ⟨.all, ?_⟩)
  refine At.e rfl rfl rfl rfl .all (R.assign (.t rfl)) ?_
  refine At.nil ?_
  refine At.tN ?_
  refine At.seq ?_
  refine At.seq ?_
  refine At.plain [(false, 0)] rfl ?_
  refine At.e rfl rfl rfl rfl .all (R.assign .c) ?_
  refine At.nil ?_
  refine At.tN ?_
  refine At.block ?_
  refine At.nilRow iK 43 ?_
  refine At.perm (List.Perm.swap _ _ _) ?_
  refine At.loop3 (fun (i : Nat) (gs : List (SV × List Itm)) (V : Value) => i ≤ l.length ∧ splitR (max 2 (min cells 16) / 2) (gs.map (·.2)) (l.drop i) = splitR (max 2 (min cells 16) / 2) [[]] l ∧ 0 < gs.length ∧ gs.length ≤ i + 1 ∧ (∀ x ∈ gs, x.2.length ≤ i)) (fun (i : Nat) (gs : List (SV × List Itm)) (V : Value) => l.length - i) (fun (i : Nat) (gs : List (SV × List Itm)) (V : Value) => [(0, true, u), (5, true, .int .i64 (max 2 (min cells 16) / 2)), (6, true, V), (7, true, .int .i64 i)]) (fun (i : Nat) (gs : List (SV × List Itm)) (V : Value) => rowE sK 22 V (gs.map (·.1)) :: seg iK 43 gs) (fun (i : Nat) (gs : List (SV × List Itm)) (V : Value) => []) (0) ([((⟨.slice none 0 0, rfl⟩ : SV), ([] : List Itm))]) (v1) ⟨Nat.zero_le _, rfl, by simp, by simp, by simp⟩ (.cons rfl (.cons rfl (.cons rfl (.cons rfl .nil)))) (by (exact List.Sublist.refl _)) rfl (fun i gs V hi => ?_)
  obtain ⟨hi1, hi2, hi3, hi4, hi5⟩ := hi; have hml : (gs.map (·.1)).length = gs.length := List.length_map _
  refine At.seq ?_
  refine At.seq ?_
  refine At.plain [(false, 0), (false, 1), (false, 2), (false, 3)] rfl ?_
  refine At.e rfl rfl rfl rfl .all (R.move (.t rfl)) ?_
  refine At.e rfl rfl rfl rfl .all (R.move (.t rfl)) ?_
  refine At.e rfl rfl rfl rfl .all (R.lenRd Try.underlying22 (.t rfl) (by exact rS M0)) ?_
  refine At.e rfl rfl rfl rfl .all (R.lss (.t rfl) (.t rfl)) ?_
  refine At.nil ?_
  refine At.tN ?_
  refine At.condD (.t rfl) (fun c1 => ?_) (fun c1 => ?_)
  · skip
    refine At.skip ?_
    refine At.tN ?_
    refine At.block ?_
    refine At.seq ?_
    refine At.plain [(false, 0), (false, 1)] rfl ?_
    refine At.e rfl rfl rfl rfl .all (R.move (.t rfl)) ?_
    refine At.e rfl rfl rfl rfl .all (R.assign (.t rfl)) ?_
    refine At.nil ?_
    refine At.tN ?_
    refine At.seq ?_
    refine At.block ?_
    refine At.loop1 (fun (k : Nat) => i ≤ k ∧ k ≤ l.length ∧ ∀ j : Nat, i ≤ j → j < k → (gE l (j : Int)).key = (gE l (i : Int)).key) (fun (k : Nat) => l.length - k) (fun (k : Nat) => [(0, true, u), (5, true, .int .i64 (max 2 (min cells 16) / 2)), (6, true, V), (7, true, .int .i64 i), (8, true, .int .i64 k)]) (fun (k : Nat) => rowE sK 22 V (gs.map (·.1)) :: seg iK 43 gs) (fun (k : Nat) => []) (i) ⟨Nat.le_refl _, by omega, fun j h h2 => by omega⟩ (.cons rfl (.cons rfl (.cons rfl (.cons rfl (.cons rfl .nil))))) (by (exact List.Sublist.refl _)) rfl (fun k hi => ?_)
    obtain ⟨hk0, hk1, hk2⟩ := hi
    refine At.seq ?_
    refine At.seq ?_
    refine At.drawK [(true, 0), (true, 1), (true, 2), (true, 3), (true, 4), (true, 5), (true, 6), (true, 7), (true, 8), (true, 9), (true, 10), (true, 11), (true, 12), (true, 13), (true, 14), (true, 15), (true, 16)] (by kernel_rfl) (by kernel_rfl) ?_
    refine At.s rfl rfl rfl rfl (Cl.kept fun _ h => h) (R.move (.t rfl)) ?_
    refine At.s rfl rfl rfl rfl (Cl.kept fun _ h => h) (R.move (.t rfl)) ?_
    refine At.s rfl rfl rfl rfl (Cl.kept fun _ h => h) (R.lenRd Try.underlying22 (.t rfl) (by exact rK M0)) ?_
    refine At.s rfl rfl rfl rfl (Cl.kept fun _ h => h) (R.lss (.t rfl) (.t rfl)) ?_
    refine At.s rfl rfl rfl rfl (Cl.kept fun _ h => h) (R.move (.t rfl)) ?_
    refine At.s rfl rfl rfl rfl (Cl.kept fun _ h => h) (R.move (by exact .t rfl)) ?_
    refine At.s rfl rfl rfl rfl (Cl.kept fun _ h => h) (R.move (by exact .t rfl)) ?_
    refine At.s rfl rfl rfl rfl (Cl.kept fun _ h => h) (R.indexRd Try.underlying22 sz_43 (by exact .s rfl) (by exact rK M0) (by exact .s rfl) (fun hg => (by ((simp [-List.length_eq_zero_iff] at hg; omega))))) ?_
    refine At.s rfl rfl rfl rfl (Cl.kept fun _ h => h) (R.fieldRd fo_43_0 (by exact .s rfl) (by exact rK M0) (fun hg => (by omega))) ?_
    refine At.s rfl rfl rfl rfl (Cl.kept fun _ h => h) (R.loadRd Try.underlying3 rfl (by exact .s rfl) (by exact rK M0) (fun hg => by exact Ek.getN rfl (by ((simp [-List.length_eq_zero_iff] at hg; omega))))) ?_
    refine At.s rfl rfl rfl rfl (Cl.kept fun _ h => h) (R.move (by exact .t rfl)) ?_
    refine At.s rfl rfl rfl rfl (Cl.kept fun _ h => h) (R.move (by exact .t rfl)) ?_
    refine At.s rfl rfl rfl rfl (Cl.kept fun _ h => h) (R.indexRd Try.underlying22 sz_43 (by exact .s rfl) (by exact rK M0) (by exact .s rfl) (fun hg => (by omega))) ?_
    refine At.s rfl rfl rfl rfl (Cl.kept fun _ h => h) (R.fieldRd fo_43_0 (by exact .s rfl) (by exact rK M0) (fun hg => (by omega))) ?_
    refine At.s rfl rfl rfl rfl (Cl.kept fun _ h => h) (R.loadRd Try.underlying3 rfl (by exact .s rfl) (by exact rK M0) (fun hg => by exact Ek.getN rfl (by omega))) ?_
    refine At.s rfl rfl rfl rfl (Cl.kept fun _ h => h) (R.eql (by exact .s rfl) (by exact .s rfl)) ?_
    refine At.s rfl rfl rfl rfl (Cl.kept fun _ h => h) (R.pickAnd (.t rfl) rfl (by (simp_all; done))) ?_
    refine At.nil ?_
    refine At.tN ?_
    refine At.cond (.t rfl) (fun c2 => ?_) (fun c2 => ?_)
    · simp only [Bool.and_eq_true, decide_eq_true_eq] at c2
      refine At.skip ?_
      refine At.tN ?_
      refine At.block ?_
      refine At.plain [(false, 0), (false, 1), (false, 2)] rfl ?_
      refine At.e rfl rfl rfl rfl .all (R.move (.t rfl)) ?_
      refine At.e rfl rfl rfl rfl .all (R.addI (.t rfl) .c (fun hg => by omega)) ?_
      refine At.e rfl rfl rfl rfl .all (R.assign (.t rfl)) ?_
      refine At.nil ?_
      refine At.bN ?_
      refine At.tN ?_
      exact At.again1 (k + 1) ⟨by omega, by have := c2.1; omega, fun j h1 h2 => by rcases Nat.lt_or_ge j k with h | h; exact hk2 j h1 h; have : j = k := (by omega); subst this; exact c2.2⟩ (by have := c2.1; omega) (.cons rfl (.cons rfl (.cons rfl (.cons rfl (.cons rfl .nil))))) (by (exact List.Sublist.refl _)) rfl
    · have hc2 : ¬ (k < l.length ∧ (gE l (k : Int)).key = (gE l (i : Int)).key) := (fun h => by simp [h.1, h.2] at c2); have hik : i < k := (by rcases Nat.lt_or_ge i k with h | h; exact h; have : k = i := (by omega); subst this; exact absurd ⟨by omega, rfl⟩ hc2); have hkk : k < l.length → (gE l (k : Int)).key ≠ (gE l (i : Int)).key := (fun h e => hc2 ⟨h, e⟩); have hsz := hi5 (gE gs ((gs.length - 1 : Nat) : Int)) (gE_mem' (by omega))
      refine At.exit ?_
      refine At.tE ?_
      refine At.tE ?_
      refine At.bE ?_
      refine At.tN ?_
      refine At.seq ?_
      refine At.plain [(false, 0), (false, 1), (false, 2), (false, 3)] rfl ?_
      refine At.e rfl rfl rfl rfl .all (R.move (.t rfl)) ?_
      refine At.e rfl rfl rfl rfl .all (R.lenRd Try.underlying29 (.t rfl) (by exact wS M1)) ?_
      refine At.e rfl rfl rfl rfl .all (R.as (R.subI (.t rfl) .c (fun hg => by omega)) (fun _ => congrArg (Value.int .i64) (by omega : ((gs.map (·.1)).length : Int) - 1 = ((gs.length - 1 : Nat) : Int)))) ?_
      refine At.e rfl rfl rfl rfl .all (R.assign (.t rfl)) ?_
      refine At.nil ?_
      refine At.tN ?_
      refine At.seq ?_
      refine At.seq ?_
      refine At.plain [(false, 0), (false, 1), (false, 2), (false, 3), (false, 4), (false, 5), (false, 6), (false, 7), (false, 8), (false, 9), (false, 10), (false, 11), (false, 12), (false, 13), (false, 14), (false, 15), (false, 16), (false, 17), (false, 18)] rfl ?_
      refine At.e rfl rfl rfl rfl .all (R.move (.t rfl)) ?_
      refine At.e rfl rfl rfl rfl .all (R.move (.t rfl)) ?_
      refine At.e rfl rfl rfl rfl .all (R.indexRd Try.underlying29 sz_22 (.t rfl) (by exact wS M1) (.t rfl) (fun hg => (by omega))) ?_
      refine At.e rfl rfl rfl rfl .all (R.loadRd Try.underlying22 rfl (.t rfl) (by exact wS M1) (fun hg => by exact segGet (by omega))) ?_
      refine At.e rfl rfl rfl rfl .all (R.lenRd Try.underlying22 (.t rfl) (by exact segS (gs := gs) (by (apply List.Sublist.cons; exact List.Sublist.refl _)) (by omega))) ?_
      refine At.e rfl rfl rfl rfl .all (R.gtr (.t rfl) .c) ?_
      refine At.e rfl rfl rfl rfl .all (R.move (.t rfl)) ?_
      refine At.e rfl rfl rfl rfl .all (R.move (by exact .t rfl)) ?_
      refine At.e rfl rfl rfl rfl .all (R.move (by exact .t rfl)) ?_
      refine At.e rfl rfl rfl rfl .all (R.indexRd Try.underlying29 sz_22 (by exact .s rfl) (by exact wS M1) (by exact .s rfl) (fun hg => (by omega))) ?_
      refine At.e rfl rfl rfl rfl .all (R.loadRd Try.underlying22 rfl (by exact .s rfl) (by exact wS M1) (fun hg => by exact segGet (by omega))) ?_
      refine At.e rfl rfl rfl rfl .all (R.lenRd Try.underlying22 (by exact .s rfl) (by exact segS (gs := gs) (by (apply List.Sublist.cons; exact List.Sublist.refl _)) (by omega))) ?_
      refine At.e rfl rfl rfl rfl .all (R.move (by exact .t rfl)) ?_
      refine At.e rfl rfl rfl rfl .all (R.addI (by exact .s rfl) (by exact .s rfl) (fun hg => by omega)) ?_
      refine At.e rfl rfl rfl rfl .all (R.move (by exact .t rfl)) ?_
      refine At.e rfl rfl rfl rfl .all (R.subI (by exact .s rfl) (by exact .s rfl) (fun hg => by omega)) ?_
      refine At.e rfl rfl rfl rfl .all (R.move (by exact .t rfl)) ?_
      refine At.e rfl rfl rfl rfl .all (R.gtr (by exact .s rfl) (by exact .s rfl)) ?_
      refine At.e rfl rfl rfl rfl .all (R.pickAnd (.t rfl) rfl (by (simp_all; done))) ?_
      refine At.nil ?_
      refine At.tN ?_
      refine At.cut3 (fun (gs2 : List (SV × List Itm)) (V2 : Value) (m : Nat) => gs2.map (·.2) = openG (max 2 (min cells 16) / 2) (gs.map (·.2)) (k - i) ∧ gs2.length = m + 1 ∧ gs2.length ≤ gs.length + 1 ∧ (∀ x ∈ gs2, x.2.length ≤ i)) (fun (gs2 : List (SV × List Itm)) (V2 : Value) (m : Nat) => [(0, true, u), (5, true, .int .i64 (max 2 (min cells 16) / 2)), (6, true, V2), (7, true, .int .i64 i), (8, true, .int .i64 k), (9, true, .int .i64 m)]) (fun (gs2 : List (SV × List Itm)) (V2 : Value) (m : Nat) => rowE sK 22 V2 (gs2.map (·.1)) :: seg iK 43 gs2) (fun (gs2 : List (SV × List Itm)) (V2 : Value) (m : Nat) => []) ?_ (fun gs2 V2 m hi => ?_)
      · skip
        refine At.cond (.t rfl) (fun c3 => ?_) (fun c3 => ?_)
        · skip
          refine At.seq ?_
          refine At.plain [(false, 0), (false, 1), (false, 2), (false, 3)] rfl ?_
          refine At.e rfl rfl rfl rfl .all (R.move (.t rfl)) ?_
          refine At.lit (k := sK) rfl rfl rfl Try.underlying29 et_22 (.cons .c .nil) (.cons (y := ⟨.slice none 0 0, rfl⟩) rfl .nil) rfl rfl rfl (fun v2 => ⟨.all, ?_⟩)
          refine At.app (k := sK) rfl rfl rfl Try.underlying29 et_22 (.t rfl) (.t rfl) (fun _ => by (exact U1)) (by exact wS M1) (by (simp <;> omega)) (fun v3 => ⟨.all, ?_⟩)
          refine At.e rfl rfl rfl rfl .all (R.assign (.t rfl)) ?_
          refine At.nil ?_
          refine At.tN ?_
          refine At.plain [(false, 0), (false, 1), (false, 2)] rfl ?_
          refine At.e rfl rfl rfl rfl .all (R.move (.t rfl)) ?_
          refine At.e rfl rfl rfl rfl .all (R.addI (.t rfl) .c (fun hg => by omega)) ?_
          refine At.e rfl rfl rfl rfl .all (R.assign (.t rfl)) ?_
          refine At.nil ?_
          refine At.nilRow iK 43 ?_
          refine At.weak (fun _ _ h => h) (N' := rowE iK 43 (.slice none 0 0) [] :: ([rowE sK 22 v3 (gs.map (·.1) ++ [⟨.slice none 0 0, rfl⟩])] ++ seg iK 43 gs)) (by (apply List.Sublist.cons_cons; apply List.Sublist.cons; exact List.Sublist.refl _)) ?_
          refine At.segNew (A := [rowE sK 22 v3 (gs.map (·.1) ++ [⟨.slice none 0 0, rfl⟩])]) (α := Itm) (v := ⟨.slice none 0 0, rfl⟩) (xs := []) ?_
          refine At.re (N' := rowE sK 22 v3 ((gs ++ [((⟨.slice none 0 0, rfl⟩ : SV), ([] : List Itm))]).map (·.1)) :: seg iK 43 (gs ++ [((⟨.slice none 0 0, rfl⟩ : SV), ([] : List Itm))])) (by simp [List.map_append]) ?_
          refine At.tN ?_
          exact At.mid3 (gs ++ [((⟨.slice none 0 0, rfl⟩ : SV), ([] : List Itm))]) (v3) (gs.length) ⟨openG_yes (m := gs.length - 1) (by omega) (by simp only [Bool.and_eq_true, decide_eq_true_eq] at c3; omega), by simp, by simp, fun x hx => by rcases List.mem_append.1 hx with h | h; exact hi5 x h; simp at h; subst h; exact Nat.zero_le _⟩ (.cons rfl (.cons rfl (.cons rfl (.cons rfl (.cons rfl (.cons (congrArg (fun z => some (true, Value.int .i64 z)) (by omega)) .nil)))))) (by (exact List.Sublist.refl _)) rfl
        · skip
          refine At.skip ?_
          refine At.tN ?_
          exact At.mid3 (gs) (V) (gs.length - 1) ⟨openG_no (m := gs.length - 1) (by omega) (fun h => by simp at c3; omega), by omega, by omega, hi5⟩ (.cons rfl (.cons rfl (.cons rfl (.cons rfl (.cons rfl (.cons rfl .nil)))))) (by (exact List.Sublist.refl _)) rfl
      · obtain ⟨hm1, hm2, hm3, hm4⟩ := hi; have hml2 : (gs2.map (·.1)).length = gs2.length := List.length_map _; have hsz2 := hm4 (gE gs2 (m : Int)) (gE_mem' (by omega))
        refine At.seq ?_
        refine At.rowForm (v := V2) (by (exact M1)) (by omega) (fun g cap hv => ?_)
        subst hv
        refine At.drawL ([rdE iK u l]) [(true, 0), (true, 1), (true, 2), (true, 3), (true, 4), (true, 7), (true, 8), (true, 9), (true, 10)] [(true, 5), (false, 6), (false, 11), (true, 12)] [(false, 13)] (by (exact keepOf (by (apply List.Sublist.cons_cons; exact List.nil_sublist _)))) (by kernel_rfl) (by kernel_rfl) ?_
        refine At.s rfl rfl rfl rfl (Cl.kept (by (exact keepOf (by (apply List.Sublist.cons_cons; exact List.nil_sublist _))))) (R.move (.t rfl)) ?_
        refine At.s rfl rfl rfl rfl (Cl.kept (by (exact keepOf (by (apply List.Sublist.cons_cons; exact List.nil_sublist _))))) (R.move (.t rfl)) ?_
        refine At.s rfl rfl rfl rfl (Cl.kept (by (exact keepOf (by (apply List.Sublist.cons_cons; exact List.nil_sublist _))))) (R.move (.t rfl)) ?_
        refine At.s rfl rfl rfl rfl (Cl.kept (by (exact keepOf (by (apply List.Sublist.cons_cons; exact List.nil_sublist _))))) (R.move (.t rfl)) ?_
        refine At.s rfl rfl rfl rfl (Cl.kept (by (exact keepOf (by (apply List.Sublist.cons_cons; exact List.nil_sublist _))))) (R.indexSlE Try.underlying29 sz_22 (.t rfl) (.t rfl) (fun hg => by omega)) ?_
        refine At.s rfl rfl rfl rfl (Cl.kept (by (exact keepOf (by (apply List.Sublist.cons_cons; exact List.nil_sublist _))))) (R.move (.t rfl)) ?_
        refine At.s rfl rfl rfl rfl (Cl.kept (by (exact keepOf (by (apply List.Sublist.cons_cons; exact List.nil_sublist _))))) (R.move (.t rfl)) ?_
        refine At.s rfl rfl rfl rfl (Cl.kept (by (exact keepOf (by (apply List.Sublist.cons_cons; exact List.nil_sublist _))))) (R.move (.t rfl)) ?_
        refine At.s rfl rfl rfl rfl (Cl.kept (by (exact keepOf (by (apply List.Sublist.cons_cons; exact List.nil_sublist _))))) (R.sliceRd Try.underlying22 sz_43 (.t rfl) (by exact rK M0) (.t rfl) (.t rfl) (fun hg => (by omega))) ?_
        refine At.stage (Cl.kept fun _ h => h) ?_
        refine At.s rfl rfl rfl rfl (Cl.kept fun _ h => h) (R.loadRd Try.underlying22 rfl (.t rfl) (by exact wK M1) (fun hg => by exact segGet (by omega))) ?_
        (refine At.nilRow iK 43 ?_; refine At.app (k := iK) rfl rfl rfl Try.underlying22 et_43 .c (.t rfl) (fun _ => by (exact U0)) (by exact segS (gs := gs2) (by (apply List.Sublist.cons; apply List.Sublist.cons; exact List.Sublist.refl _)) (by omega)) (by (simp <;> omega)) (fun v4 => ⟨(Cl.kept (by (exact keepOf (by (apply List.Sublist.cons_cons; apply List.Sublist.cons; exact List.Sublist.refl _))))), ?_⟩))
        refine At.app (k := iK) rfl rfl rfl Try.underlying22 et_43 (.t rfl) (.t rfl) (fun _ => by (exact U0)) (RdIn.cutE (k := iK) (by exact rS M0) _ _ (by omega) (by omega)) (by (simp <;> omega)) (fun v5 => ⟨(Cl.kept (by (exact keepOf (by (apply List.Sublist.cons_cons; apply List.Sublist.cons; exact List.Sublist.refl _))))), ?_⟩)
        refine At.s rfl rfl rfl rfl (Cl.kept (by (exact keepOf (by (apply List.Sublist.cons_cons; apply List.Sublist.cons; exact List.Sublist.refl _))))) (R.indexRd Try.underlying29 sz_22 (.t rfl) (by exact wK M1) (.t rfl) (fun hg => (by omega))) ?_
        refine At.stage (Cl.kept (by (exact keepOf (by (apply List.Sublist.cons_cons; exact List.nil_sublist _))))) ?_
        refine At.rowOne (v := v5) (by (exact M1)) (fun h1v => ?_)
        refine At.stSeg (gs := gs2) (xs := (gE gs2 (m : Int)).2 ++ (l.drop i).take (k - i)) rfl rfl sz_22 (.t rfl) (.t rfl) h1v (by omega) U1 ⟨(Cl.kept (by (exact keepOf (by (apply List.Sublist.cons_cons; exact List.nil_sublist _))))), ?_⟩
        refine At.nil ?_
        refine At.tN ?_
        refine At.plain [(false, 0), (false, 1)] rfl ?_
        refine At.e rfl rfl rfl rfl .all (R.move (.t rfl)) ?_
        refine At.e rfl rfl rfl rfl .all (R.assign (.t rfl)) ?_
        refine At.nil ?_
        refine At.bN ?_
        refine At.segIn (A := [rowE sK 22 (.slice (some ⟨g, 0, none⟩) (gs2.map (·.1)).length cap) ((gs2.set ((m : Int)).toNat (⟨v5, h1v⟩, (gE gs2 (m : Int)).2 ++ (l.drop i).take (k - i))).map (·.1))]) (i := ((m : Int)).toNat) (v := ⟨v5, h1v⟩) (xs := (gE gs2 (m : Int)).2 ++ (l.drop i).take (k - i)) (by omega) ?_
        refine At.tN ?_
        exact At.again3 (k) (gs2.set ((m : Int)).toNat (⟨v5, h1v⟩, (gE gs2 (m : Int)).2 ++ (l.drop i).take (k - i))) (.slice (some ⟨g, 0, none⟩) (gs2.map (·.1)).length cap) ⟨by omega, by rw [putG_eq hm2 (by rw [hm1, List.length_take, List.length_drop, Nat.min_eq_left (by omega)]), ← splitR_step hik (by omega) hk2 hkk]; exact hi2, by simp; omega, by simp; omega, sizes_put hm4 (by omega) (by have := hm4 (gE gs2 (m : Int)) (gE_mem' (by omega)); simp; omega)⟩ (by omega) (.cons rfl (.cons rfl (.cons rfl (.cons rfl .nil)))) (by (exact List.Sublist.refl _)) rfl
  · skip
    refine At.exit ?_
    refine At.tE ?_
    refine At.tE ?_
    refine At.bE ?_
    refine At.tN ?_
    refine At.seq ?_
    refine At.plain [(false, 0), (false, 1)] rfl ?_
    refine At.e rfl rfl rfl rfl .all (R.move (.t rfl)) ?_
    refine At.e rfl rfl rfl rfl .all (R.assign (.t rfl)) ?_
    refine At.nil ?_
    refine At.tN ?_
    refine At.ret ?_
    exact At.final (N' := rowE sK 22 V (gs.map (·.1)) :: seg iK 43 gs) rfl (.t rfl) (by (exact List.Sublist.refl _)) (⟨gs, by rw [List.drop_eq_nil_of_le (by omega), splitR_nil] at hi2; exact hi2, rfl, rfl⟩)

end Go.Proofs.Ytejpanipdjknjaa
