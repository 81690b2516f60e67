/- L9 -/
import Derived.Test.YtejpanipdjknjaaGrpE
namespace Go.Proofs.Ytejpanipdjknjaa
open Go Go.RowKit
set_option maxRecDepth 10000
set_option linter.unusedVariables false
theorem fo_40_1 : fieldOff? Try.prog 40 1 = some 1 := by kernel_rfl
theorem fo_40_2 : fieldOff? Try.prog 40 2 = some 2 := by kernel_rfl
theorem fq_61 : flatQ Try.prog 61 = some [true, true, true] := by kernel_rfl


theorem k_split {u : Value} : Fn Try.prog 17 [u, .int .i64 4] [rdE iK u ([⟨1, 0, 0⟩, ⟨1, 2, 0⟩, ⟨2, 0, 0⟩, ⟨5, 0, 0⟩] : List Itm)] [] (IsG 22 43 ([[⟨1, 0, 0⟩, ⟨1, 2, 0⟩], [⟨2, 0, 0⟩, ⟨5, 0, 0⟩]] : List (List Itm))) :=
  (by rw [keys_eq]; decide : splitK (min (max 4 2) 16 / 2) ([⟨1, 0, 0⟩, ⟨1, 2, 0⟩, ⟨2, 0, 0⟩, ⟨5, 0, 0⟩] : List Itm) (keysP ([⟨1, 0, 0⟩, ⟨1, 2, 0⟩, ⟨2, 0, 0⟩, ⟨5, 0, 0⟩] : List Itm)) = ([[⟨1, 0, 0⟩, ⟨1, 2, 0⟩], [⟨2, 0, 0⟩, ⟨5, 0, 0⟩]] : List (List Itm))) ▸ c_Split (u := u) (l := [⟨1, 0, 0⟩, ⟨1, 2, 0⟩, ⟨2, 0, 0⟩, ⟨5, 0, 0⟩]) (cells := 4) (by decide)
theorem k_split0 {u : Value} : Fn Try.prog 17 [u, .int .i64 4] [rdE iK u ([] : List Itm)] [] (IsG 22 43 [[]]) :=
  (by rw [keys_eq]; decide : splitK (min (max 4 2) 16 / 2) ([] : List Itm) (keysP ([] : List Itm)) = [[]]) ▸ c_Split (u := u) (l := []) (cells := 4) (by decide)
theorem k_mins {gs : List (SV × List Itm)} (h : gs.map (·.2) = ([[⟨1, 0, 0⟩, ⟨1, 2, 0⟩], [⟨2, 0, 0⟩, ⟨5, 0, 0⟩]] : List (List Itm))) : minsF 0 (asN gs) (asN gs).length = [0, 2] := by
  rw [asN_len, gsLen h]
  rw [minsF_eq 0 (gs := asN gs) (hs := (([[⟨1, 0, 0⟩, ⟨1, 2, 0⟩], [⟨2, 0, 0⟩, ⟨5, 0, 0⟩]] : List (List Itm))).map fun g => (Value.slice none 0 0, g)) (by rw [show (asN gs).map (fun x => x.2) = gs.map (·.2) from asN_snd gs, h]; rfl)]
  decide
theorem k_chunks {V : Value} {gs : List (SV × List Itm)} (h : gs.map (·.2) = ([[⟨1, 0, 0⟩, ⟨1, 2, 0⟩], [⟨2, 0, 0⟩, ⟨5, 0, 0⟩]] : List (List Itm))) : Fn Try.prog 23 [.agg #[.int .i64 1, .int .i64 ((4 : Nat) : Int), .int .i64 200, .int .i64 1000], .int .i64 50, .int .i64 77, .int .i64 0, V] (nest iK V (asN gs)) [] (IsC 40 61 ([([50, 0, 2, 138, 0, 0, 0, 0], [⟨3, 1, 0⟩, ⟨5, 1, 0⟩, ⟨0, 0, 0⟩, ⟨0, 0, 0⟩]), ([69, 2, 2, 154, 0, 0, 0, 0], [⟨3, 2, 0⟩, ⟨3, 5, 0⟩, ⟨0, 0, 0⟩, ⟨0, 0, 0⟩])] : List (List Int × List Cel))) := by
  have := c_Chunks (V := V) (gs := asN gs) (th := 1) (wd := 200) (ver := 1000) (at_ := 50) (after := 77) (least := 0) (cap := 4) (by rw [asN_len, gsLen h]; decide) (by decide) (by decide) (by decide)
  rw [asN_snd, h, (by decide : chunksF 4 50 77 0 ([[⟨1, 0, 0⟩, ⟨1, 2, 0⟩], [⟨2, 0, 0⟩, ⟨5, 0, 0⟩]] : List (List Itm)) = ([([50, 0, 2, 138, 0, 0, 0, 0], [⟨3, 1, 0⟩, ⟨5, 1, 0⟩, ⟨0, 0, 0⟩, ⟨0, 0, 0⟩]), ([69, 2, 2, 154, 0, 0, 0, 0], [⟨3, 2, 0⟩, ⟨3, 5, 0⟩, ⟨0, 0, 0⟩, ⟨0, 0, 0⟩])] : List (List Int × List Cel)))] at this
  exact this
theorem k_first {cs : List (Chk × List Cel)} (h : cs.map (fun x => (hd x.1, x.2)) = ([([50, 0, 2, 138, 0, 0, 0, 0], [⟨3, 1, 0⟩, ⟨5, 1, 0⟩, ⟨0, 0, 0⟩, ⟨0, 0, 0⟩]), ([69, 2, 2, 154, 0, 0, 0, 0], [⟨3, 2, 0⟩, ⟨3, 5, 0⟩, ⟨0, 0, 0⟩, ⟨0, 0, 0⟩])] : List (List Int × List Cel))) : ((gE (cs.map (fun x : Chk × List Cel => x.1)) 0).a0 = 50 ∧ (gE (cs.map (fun x : Chk × List Cel => x.1)) 0).a1 = 0 ∧ (gE (cs.map (fun x : Chk × List Cel => x.1)) 0).a2 = 2 ∧ (gE (cs.map (fun x : Chk × List Cel => x.1)) 0).a3 = 138) ∧ (gE cs 0).2.length = 4 ∧ gE (gE cs 0).2 1 = ⟨5, 1, 0⟩ := by
  have h1 : (hd (gE (cs.map (fun x : Chk × List Cel => x.1)) 0), (gE cs 0).2) = ([50, 0, 2, 138, 0, 0, 0, 0], [⟨3, 1, 0⟩, ⟨5, 1, 0⟩, ⟨0, 0, 0⟩, ⟨0, 0, 0⟩]) := csAt h (j := 0) (by rw [csLen h]; decide)
  obtain ⟨h2, h3⟩ := Prod.mk.inj h1
  refine ⟨?_, by rw [h3]; rfl, by rw [h3]; rfl⟩
  simp only [hd, List.cons.injEq] at h2
  exact ⟨h2.1, h2.2.1, h2.2.2.1, h2.2.2.2.1⟩
theorem k_second {cs : List (Chk × List Cel)} (h : cs.map (fun x => (hd x.1, x.2)) = ([([50, 0, 2, 138, 0, 0, 0, 0], [⟨3, 1, 0⟩, ⟨5, 1, 0⟩, ⟨0, 0, 0⟩, ⟨0, 0, 0⟩]), ([69, 2, 2, 154, 0, 0, 0, 0], [⟨3, 2, 0⟩, ⟨3, 5, 0⟩, ⟨0, 0, 0⟩, ⟨0, 0, 0⟩])] : List (List Int × List Cel))) : (gE (cs.map (fun x : Chk × List Cel => x.1)) 1).a0 = 69 ∧ (gE (cs.map (fun x : Chk × List Cel => x.1)) 1).a1 = 2 ∧ (gE (cs.map (fun x : Chk × List Cel => x.1)) 1).a3 = 154 := by
  have h1 : (hd (gE (cs.map (fun x : Chk × List Cel => x.1)) 1), (gE cs 1).2) = ([69, 2, 2, 154, 0, 0, 0, 0], [⟨3, 2, 0⟩, ⟨3, 5, 0⟩, ⟨0, 0, 0⟩, ⟨0, 0, 0⟩]) := csAt h (j := 1) (by rw [csLen h]; decide)
  obtain ⟨h2, h3⟩ := Prod.mk.inj h1
  simp only [hd, List.cons.injEq] at h2
  exact ⟨h2.1, h2.2.1, h2.2.2.2.1⟩
theorem c_known9  : Fn Try.prog 14 [] [] [] (IsV (.bool true)) := by
  refine Fn.enter Try.func14 (by kernel_rfl) rfl (n := 107) rfl rfl (fun w => ?_)
  refine At.seq ?_
  refine At.plain [(false, 0)] rfl ?_
  refine At.e rfl rfl rfl rfl .all (R.assign .c) ?_
  refine At.nil ?_
  refine At.tN ?_
  refine At.seq ?_
  refine At.plain [(false, 0), (false, 1), (false, 2), (false, 3), (false, 4), (false, 5)] rfl ?_
  refine At.e rfl rfl rfl rfl .all (R.build bt_43 (.cons .c .nil) (.cons rfl .nil) rfl) ?_
  refine At.e rfl rfl rfl rfl .all (R.build bt_43 (.cons .c (.cons .c .nil)) (.cons rfl (.cons rfl .nil)) rfl) ?_
  refine At.e rfl rfl rfl rfl .all (R.build bt_43 (.cons .c .nil) (.cons rfl .nil) rfl) ?_
  refine At.e rfl rfl rfl rfl .all (R.build bt_43 (.cons .c .nil) (.cons rfl .nil) rfl) ?_
  refine At.lit (k := iK) rfl rfl rfl Try.underlying22 et_43 (.cons (.t rfl) (.cons (.t rfl) (.cons (.t rfl) (.cons (.t rfl) .nil)))) (.cons (y := ⟨_, _, _⟩) rfl (.cons (y := ⟨_, _, _⟩) rfl (.cons (y := ⟨_, _, _⟩) rfl (.cons (y := ⟨_, _, _⟩) rfl .nil)))) rfl rfl rfl (fun v1 => ⟨.all, ?_⟩)
  refine At.e rfl rfl rfl rfl .all (R.assign (.t rfl)) ?_
  refine At.nil ?_
  refine At.tN ?_
  refine At.seq ?_
  refine At.plain [(false, 0), (false, 1), (false, 2)] rfl ?_
  refine At.e rfl rfl rfl rfl .all (R.move (.t rfl)) ?_
  refine At.callRG rfl rfl rfl (.cons (.t rfl) (.cons .c .nil)) (by (exact .cons (by (exact wS M0)) .nil)) k_split (fun vg gs hgs => ⟨.all, ?_⟩); have hgl : gs.length = 2 := gsLen hgs; have hml : (gs.map (·.1)).length = 2 := (by rw [List.length_map, hgl]); have hga : (gE gs 0).2.length = 2 := (by rw [gsAt hgs]; rfl); have hgb : (gE gs 1).2.length = 2 := (by rw [gsAt hgs]; rfl); refine At.re (N' := rowE sK 22 vg (gs.map (·.1)) :: rowE iK 43 v1 ([⟨1, 0, 0⟩, ⟨1, 2, 0⟩, ⟨2, 0, 0⟩, ⟨5, 0, 0⟩] : List Itm) :: seg iK 43 gs) rfl ?_
  refine At.e rfl rfl rfl rfl .all (R.assign (.t rfl)) ?_
  refine At.nil ?_
  refine At.tN ?_
  refine At.seq ?_
  refine At.plain [(false, 0), (false, 1), (false, 2), (false, 3)] rfl ?_
  refine At.callVR rfl rfl rfl (.cons .c (.cons .c (.cons .c .nil))) (by (exact .nil)) (fun hg => c_Conf) .all ?_
  refine At.e rfl rfl rfl rfl .all (R.move (.t rfl)) ?_
  refine At.callRC rfl rfl rfl (.cons (.t rfl) (.cons .c (.cons .c (.cons .c (.cons (.t rfl) .nil))))) (Rds.ofSeg (Eo := 0) (E := 0) (by (exact wS M0)) (segAll (E := 43) (by (apply List.Sublist.cons; apply List.Sublist.cons; exact List.Sublist.refl _)))) (k_chunks hgs) (fun vc cs hcs => ⟨.all, ?_⟩); have hcl : cs.length = 2 := csLen hcs; have hkl : (cs.map (·.1)).length = 2 := (by rw [List.length_map, hcl]); obtain ⟨⟨p0, p1, p2, p3⟩, p4, hcell⟩ := k_first hcs; obtain ⟨q0, q1, q3⟩ := k_second hcs; refine At.re (N' := rowE chK 40 vc (cs.map (·.1)) :: rowE sK 22 vg (gs.map (·.1)) :: rowE iK 43 v1 ([⟨1, 0, 0⟩, ⟨1, 2, 0⟩, ⟨2, 0, 0⟩, ⟨5, 0, 0⟩] : List Itm) :: (seg iK 43 gs ++ csg 61 cs)) rfl ?_
  refine At.e rfl rfl rfl rfl .all (R.assign (.t rfl)) ?_
  refine At.nil ?_
  refine At.tN ?_
  refine At.seq ?_
  refine At.plain [(false, 0), (false, 1), (false, 2), (false, 3), (false, 4), (false, 5), (false, 6), (false, 7), (false, 8), (false, 9), (false, 10), (false, 11), (false, 12), (false, 13), (false, 14), (false, 15), (false, 16), (false, 17), (false, 18), (false, 19), (false, 20), (false, 21), (false, 22), (false, 23), (false, 24), (false, 25), (false, 26), (false, 27), (false, 28), (false, 29), (false, 30), (false, 31), (false, 32), (false, 33), (false, 34), (false, 35), (false, 36), (false, 37), (false, 38), (false, 39), (false, 40), (false, 41), (false, 42), (false, 43), (false, 44), (false, 45), (false, 46), (false, 47), (false, 48), (false, 49), (false, 50), (false, 51), (false, 52), (false, 53), (false, 54), (false, 55), (false, 56), (false, 57), (false, 58), (false, 59), (false, 60), (false, 61), (false, 62), (false, 63), (false, 64), (false, 65), (false, 66), (false, 67), (false, 68), (false, 69), (false, 70), (false, 71), (false, 72), (false, 73), (false, 74), (false, 75), (false, 76), (false, 77), (false, 78), (false, 79), (false, 80), (false, 81), (false, 82), (false, 83), (false, 84), (false, 85), (false, 86), (false, 87), (false, 88), (false, 89), (false, 90), (false, 91), (false, 92), (false, 93)] rfl ?_
  refine At.e rfl rfl rfl rfl .all (R.move (.t rfl)) ?_
  refine At.e rfl rfl rfl rfl .all (R.lenRd Try.underlying29 (.t rfl) (by exact wS M1)) ?_
  refine At.e rfl rfl rfl rfl .all (R.as (R.eql (.t rfl) .c) (fun _ => congrArg Value.bool (decide_eq_true (by omega)))) ?_
  refine At.e rfl rfl rfl rfl .all (R.move (.t rfl)) ?_
  refine At.e rfl rfl rfl rfl .all (R.move (by exact .t rfl)) ?_
  refine At.e rfl rfl rfl rfl .all (R.indexRd Try.underlying29 sz_22 (by exact .t rfl) (by exact wS M1) .c (fun hg => (by omega))) ?_
  refine At.e rfl rfl rfl rfl .all (R.loadRd Try.underlying22 rfl (by exact .t rfl) (by exact wS M1) (fun hg => by exact segGet (by omega))) ?_
  refine At.e rfl rfl rfl rfl .all (R.lenRd Try.underlying22 (by exact .t rfl) (by exact segST (k := iK) (gs := gs) (by (apply List.Sublist.cons; apply List.Sublist.cons; apply List.Sublist.cons; exact List.sublist_append_left _ _)) (by omega))) ?_
  refine At.e rfl rfl rfl rfl .all (R.as (R.eql (by exact .t rfl) .c) (fun _ => congrArg Value.bool (decide_eq_true (by omega)))) ?_
  refine At.e rfl rfl rfl rfl .all (R.pickT (.t rfl) (.t rfl)) ?_
  refine At.e rfl rfl rfl rfl .all (R.move (.t rfl)) ?_
  refine At.e rfl rfl rfl rfl .all (R.move (by exact .t rfl)) ?_
  refine At.e rfl rfl rfl rfl .all (R.indexRd Try.underlying29 sz_22 (by exact .t rfl) (by exact wS M1) .c (fun hg => (by omega))) ?_
  refine At.e rfl rfl rfl rfl .all (R.loadRd Try.underlying22 rfl (by exact .t rfl) (by exact wS M1) (fun hg => by exact segGet (by omega))) ?_
  refine At.e rfl rfl rfl rfl .all (R.lenRd Try.underlying22 (by exact .t rfl) (by exact segST (k := iK) (gs := gs) (by (apply List.Sublist.cons; apply List.Sublist.cons; apply List.Sublist.cons; exact List.sublist_append_left _ _)) (by omega))) ?_
  refine At.e rfl rfl rfl rfl .all (R.as (R.eql (by exact .t rfl) .c) (fun _ => congrArg Value.bool (decide_eq_true (by omega)))) ?_
  refine At.e rfl rfl rfl rfl .all (R.pickT (.t rfl) (.t rfl)) ?_
  refine At.e rfl rfl rfl rfl .all (R.move (.t rfl)) ?_
  refine At.callRG rfl rfl rfl (.cons .c (.cons .c .nil)) (.cons RdIn.nil .nil) k_split0 (fun vh hs hhs => ⟨.all, ?_⟩); have hhl : hs.length = 1 := gsLen hhs; have hnl : (hs.map (·.1)).length = 1 := (by rw [List.length_map, hhl]); refine At.re (N' := rowE sK 22 vh (hs.map (·.1)) :: rowE chK 40 vc (cs.map (·.1)) :: rowE sK 22 vg (gs.map (·.1)) :: rowE iK 43 v1 ([⟨1, 0, 0⟩, ⟨1, 2, 0⟩, ⟨2, 0, 0⟩, ⟨5, 0, 0⟩] : List Itm) :: (seg iK 43 gs ++ (csg 61 cs ++ seg iK 43 hs))) (by simp) ?_
  refine At.e rfl rfl rfl rfl .all (R.lenRd Try.underlying29 (by exact .t rfl) (by exact wS M0)) ?_
  refine At.e rfl rfl rfl rfl .all (R.as (R.eql (by exact .t rfl) .c) (fun _ => congrArg Value.bool (decide_eq_true (by omega)))) ?_
  refine At.e rfl rfl rfl rfl .all (R.pickT (.t rfl) (.t rfl)) ?_
  refine At.e rfl rfl rfl rfl .all (R.move (.t rfl)) ?_
  refine At.e rfl rfl rfl rfl .all (R.move (by exact .t rfl)) ?_
  refine At.callRF rfl rfl rfl (.cons .c (.cons (.t rfl) .nil)) (Rds.ofSeg (Eo := 0) (E := 0) (by (exact wS M2)) (segAll (E := 43) (by (apply List.Sublist.cons; apply List.Sublist.cons; apply List.Sublist.cons; apply List.Sublist.cons; exact List.sublist_append_left _ _)))) (c_Mins (gs := asN gs) (by rw [asN_len]; omega)) (fun vm => ⟨.all, ?_⟩)
  refine At.lit (k := zK) rfl rfl rfl Try.underlying32 et_3 (.cons .c (.cons .c .nil)) (.cons rfl (.cons rfl .nil)) rfl rfl rfl (fun v2 => ⟨.all, ?_⟩)
  refine At.callVR rfl rfl rfl (.cons (by exact .t rfl) (.cons (by exact .t rfl) .nil)) (by (exact .cons (by (exact wS M1)) (.cons (by (exact wS M0)) .nil))) (fun hg => c_SameIntsT (k_mins hgs)) .all ?_
  refine At.e rfl rfl rfl rfl .all (R.pickT (.t rfl) (.t rfl)) ?_
  refine At.e rfl rfl rfl rfl .all (R.move (.t rfl)) ?_
  refine At.e rfl rfl rfl rfl .all (R.move (by exact .t rfl)) ?_
  refine At.e rfl rfl rfl rfl .all (R.lenRd Try.underlying35 (by exact .t rfl) (by exact wS M3)) ?_
  refine At.e rfl rfl rfl rfl .all (R.as (R.eql (by exact .t rfl) .c) (fun _ => congrArg Value.bool (decide_eq_true (by omega)))) ?_
  refine At.e rfl rfl rfl rfl .all (R.pickT (.t rfl) (.t rfl)) ?_
  refine At.e rfl rfl rfl rfl .all (R.move (.t rfl)) ?_
  refine At.e rfl rfl rfl rfl .all (R.move (by exact .t rfl)) ?_
  refine At.e rfl rfl rfl rfl .all (R.indexRd Try.underlying35 sz_40 (by exact .t rfl) (by exact wS M3) .c (fun hg => (by omega))) ?_
  refine At.e rfl rfl rfl rfl .all (R.fieldRd fo_40_0 (by exact .t rfl) (by exact wS M3) (fun hg => (by omega))) ?_
  refine At.e rfl rfl rfl rfl .all (R.loadRd Try.underlying3 rfl (by exact .t rfl) (by exact wS M3) (fun hg => by exact Ek.getN rfl (by omega))) ?_
  refine At.e rfl rfl rfl rfl .all (R.as (R.eql (by exact .t rfl) .c) (fun _ => congrArg Value.bool (decide_eq_true (by omega)))) ?_
  refine At.e rfl rfl rfl rfl .all (R.pickT (.t rfl) (.t rfl)) ?_
  refine At.e rfl rfl rfl rfl .all (R.move (.t rfl)) ?_
  refine At.e rfl rfl rfl rfl .all (R.move (by exact .t rfl)) ?_
  refine At.e rfl rfl rfl rfl .all (R.indexRd Try.underlying35 sz_40 (by exact .t rfl) (by exact wS M3) .c (fun hg => (by omega))) ?_
  refine At.e rfl rfl rfl rfl .all (R.fieldRd fo_40_0 (by exact .t rfl) (by exact wS M3) (fun hg => (by omega))) ?_
  refine At.e rfl rfl rfl rfl .all (R.loadRd Try.underlying3 rfl (by exact .t rfl) (by exact wS M3) (fun hg => by exact Ek.getN rfl (by omega))) ?_
  refine At.e rfl rfl rfl rfl .all (R.as (R.eql (by exact .t rfl) .c) (fun _ => congrArg Value.bool (decide_eq_true (by omega)))) ?_
  refine At.e rfl rfl rfl rfl .all (R.pickT (.t rfl) (.t rfl)) ?_
  refine At.e rfl rfl rfl rfl .all (R.move (.t rfl)) ?_
  refine At.e rfl rfl rfl rfl .all (R.move (by exact .t rfl)) ?_
  refine At.e rfl rfl rfl rfl .all (R.indexRd Try.underlying35 sz_40 (by exact .t rfl) (by exact wS M3) .c (fun hg => (by omega))) ?_
  refine At.e rfl rfl rfl rfl .all (R.fieldRd fo_40_3 (by exact .t rfl) (by exact wS M3) (fun hg => (by omega))) ?_
  refine At.e rfl rfl rfl rfl .all (R.loadRd Try.underlying3 rfl (by exact .t rfl) (by exact wS M3) (fun hg => by exact Ek.getN rfl (by omega))) ?_
  refine At.e rfl rfl rfl rfl .all (R.as (R.eql (by exact .t rfl) .c) (fun _ => congrArg Value.bool (decide_eq_true (by omega)))) ?_
  refine At.e rfl rfl rfl rfl .all (R.pickT (.t rfl) (.t rfl)) ?_
  refine At.e rfl rfl rfl rfl .all (R.move (.t rfl)) ?_
  refine At.e rfl rfl rfl rfl .all (R.move (by exact .t rfl)) ?_
  refine At.e rfl rfl rfl rfl .all (R.indexRd Try.underlying35 sz_40 (by exact .t rfl) (by exact wS M3) .c (fun hg => (by omega))) ?_
  refine At.e rfl rfl rfl rfl .all (R.fieldRd fo_40_3 (by exact .t rfl) (by exact wS M3) (fun hg => (by omega))) ?_
  refine At.e rfl rfl rfl rfl .all (R.loadRd Try.underlying3 rfl (by exact .t rfl) (by exact wS M3) (fun hg => by exact Ek.getN rfl (by omega))) ?_
  refine At.e rfl rfl rfl rfl .all (R.as (R.eql (by exact .t rfl) .c) (fun _ => congrArg Value.bool (decide_eq_true (by omega)))) ?_
  refine At.e rfl rfl rfl rfl .all (R.pickT (.t rfl) (.t rfl)) ?_
  refine At.e rfl rfl rfl rfl .all (R.move (.t rfl)) ?_
  refine At.e rfl rfl rfl rfl .all (R.move (by exact .t rfl)) ?_
  refine At.e rfl rfl rfl rfl .all (R.indexRd Try.underlying35 sz_40 (by exact .t rfl) (by exact wS M3) .c (fun hg => (by omega))) ?_
  refine At.e rfl rfl rfl rfl .all (R.fieldRd fo_40_1 (by exact .t rfl) (by exact wS M3) (fun hg => (by omega))) ?_
  refine At.e rfl rfl rfl rfl .all (R.loadRd Try.underlying3 rfl (by exact .t rfl) (by exact wS M3) (fun hg => by exact Ek.getN rfl (by omega))) ?_
  refine At.e rfl rfl rfl rfl .all (R.as (R.eql (by exact .t rfl) .c) (fun _ => congrArg Value.bool (decide_eq_true (by omega)))) ?_
  refine At.e rfl rfl rfl rfl .all (R.pickT (.t rfl) (.t rfl)) ?_
  refine At.e rfl rfl rfl rfl .all (R.move (.t rfl)) ?_
  refine At.e rfl rfl rfl rfl .all (R.move (by exact .t rfl)) ?_
  refine At.e rfl rfl rfl rfl .all (R.indexRd Try.underlying35 sz_40 (by exact .t rfl) (by exact wS M3) .c (fun hg => (by omega))) ?_
  refine At.e rfl rfl rfl rfl .all (R.fieldRd fo_40_2 (by exact .t rfl) (by exact wS M3) (fun hg => (by omega))) ?_
  refine At.e rfl rfl rfl rfl .all (R.loadRd Try.underlying3 rfl (by exact .t rfl) (by exact wS M3) (fun hg => by exact Ek.getN rfl (by omega))) ?_
  refine At.e rfl rfl rfl rfl .all (R.as (R.eql (by exact .t rfl) .c) (fun _ => congrArg Value.bool (decide_eq_true (by omega)))) ?_
  refine At.e rfl rfl rfl rfl .all (R.pickT (.t rfl) (.t rfl)) ?_
  refine At.e rfl rfl rfl rfl .all (R.move (.t rfl)) ?_
  refine At.e rfl rfl rfl rfl .all (R.move (by exact .t rfl)) ?_
  refine At.e rfl rfl rfl rfl .all (R.indexRd Try.underlying35 sz_40 (by exact .t rfl) (by exact wS M3) .c (fun hg => (by omega))) ?_
  refine At.e rfl rfl rfl rfl .all (R.fieldRd fo_40_8 (by exact .t rfl) (by exact wS M3) (fun hg => (by omega))) ?_
  refine At.e rfl rfl rfl rfl .all (R.loadRd Try.underlying38 rfl (by exact .t rfl) (by exact wS M3) (fun hg => by exact Ek.getN rfl (by omega))) ?_
  refine At.e rfl rfl rfl rfl .all (R.lenRd Try.underlying38 (by exact .t rfl) (by exact csgST (cs := cs) (by (apply List.Sublist.cons; apply List.Sublist.cons; apply List.Sublist.cons; apply List.Sublist.cons; apply List.Sublist.cons; apply List.Sublist.cons; apply List.sublist_append_of_sublist_right; exact List.sublist_append_left _ _)) (by omega))) ?_
  refine At.e rfl rfl rfl rfl .all (R.as (R.eql (by exact .t rfl) .c) (fun _ => congrArg Value.bool (decide_eq_true (by omega)))) ?_
  refine At.e rfl rfl rfl rfl .all (R.pickT (.t rfl) (.t rfl)) ?_
  refine At.e rfl rfl rfl rfl .all (R.move (.t rfl)) ?_
  refine At.e rfl rfl rfl rfl .all (R.move (by exact .t rfl)) ?_
  refine At.e rfl rfl rfl rfl .all (R.indexRd Try.underlying35 sz_40 (by exact .t rfl) (by exact wS M3) .c (fun hg => (by omega))) ?_
  refine At.e rfl rfl rfl rfl .all (R.fieldRd fo_40_8 (by exact .t rfl) (by exact wS M3) (fun hg => (by omega))) ?_
  refine At.e rfl rfl rfl rfl .all (R.loadRd Try.underlying38 rfl (by exact .t rfl) (by exact wS M3) (fun hg => by exact Ek.getN rfl (by omega))) ?_
  refine At.e rfl rfl rfl rfl .all (R.indexRd Try.underlying38 sz_61 (by exact .t rfl) (by exact csgST (cs := cs) (by (apply List.Sublist.cons; apply List.Sublist.cons; apply List.Sublist.cons; apply List.Sublist.cons; apply List.Sublist.cons; apply List.Sublist.cons; apply List.sublist_append_of_sublist_right; exact List.sublist_append_left _ _)) (by omega)) .c (fun hg => (by omega))) ?_
  refine At.e rfl rfl rfl rfl .all (R.loadRdAgg (us := cellK.enc _) Try.underlying61 rfl sz_61 (by exact .t rfl) (by exact csgST (cs := cs) (by (apply List.Sublist.cons; apply List.Sublist.cons; apply List.Sublist.cons; apply List.Sublist.cons; apply List.Sublist.cons; apply List.Sublist.cons; apply List.sublist_append_of_sublist_right; exact List.sublist_append_left _ _)) (by omega)) (fun hg => (by omega)) (fun hg => by exact Ek.getA (by omega))) ?_
  refine At.e rfl rfl rfl rfl .all (R.as (R.build bt_61 (.cons .c (.cons .c .nil)) (.cons rfl (.cons rfl .nil)) rfl) (fun _ => (rfl : Value.agg _ = .agg (cellK.enc (⟨5, 1, 0⟩ : Cel)).toArray))) ?_
  refine At.e rfl rfl rfl rfl .all (R.as (R.eqlS fq_61 (by exact .t rfl) (by exact .t rfl) rfl) (fun _ => congrArg Value.bool cellK_eqb)) ?_
  refine At.e rfl rfl rfl rfl .all (R.pickT (.t rfl) (.t rfl)) ?_
  refine At.e rfl rfl rfl rfl .all (R.assign (.t rfl)) ?_
  refine At.nil ?_
  refine At.tN ?_
  refine At.ret ?_
  exact At.final rfl (.t rfl) (List.nil_sublist _) (⟨congrArg Value.bool (by (simp only [hcell]; rfl)), rfl, rfl⟩)

end Go.Proofs.Ytejpanipdjknjaa
