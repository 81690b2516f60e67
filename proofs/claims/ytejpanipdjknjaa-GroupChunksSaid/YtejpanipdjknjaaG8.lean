/- G8 -/
import Derived.Test.YtejpanipdjknjaaGrpC
namespace Go.Proofs.Ytejpanipdjknjaa
open Go Go.RowKit
set_option maxRecDepth 10000
set_option linter.unusedVariables false
theorem bt_40 : buildTab Try.prog 40 = some (#[.int .i64 0, .int .i64 0, .int .i64 0, .int .i64 0, .int .i64 0, .int .i64 0, .int .i64 0, .int .i64 0, .slice none 0 0], [(0, 1), (1, 1), (2, 1), (3, 1), (4, 1), (5, 1), (6, 1), (7, 1), (8, 1)]) := by kernel_rfl
theorem bt_61 : buildTab Try.prog 61 = some (#[.int .i64 0, .int .i64 0, .int .i64 0], [(0, 1), (1, 1), (2, 1)]) := by kernel_rfl
theorem et_40 : elemTab Try.prog 40 = some (9, 88) := by kernel_rfl
theorem et_61 : elemTab Try.prog 61 = some (3, 24) := by kernel_rfl
theorem fo_24_1 : fieldOff? Try.prog 24 1 = some 1 := by kernel_rfl
theorem fo_40_8 : fieldOff? Try.prog 40 8 = some 8 := by kernel_rfl
theorem fo_43_2 : fieldOff? Try.prog 43 2 = some 2 := by kernel_rfl
theorem sz_40 : (Try.prog.info? 40).map (·.size) = some 9 := by kernel_rfl
theorem sz_61 : (Try.prog.info? 61).map (·.size) = some 3 := by kernel_rfl
theorem ze_40 : (Try.prog.info? 40).bind (·.zero) = some (.agg #[.int .i64 0, .int .i64 0, .int .i64 0, .int .i64 0, .int .i64 0, .int .i64 0, .int .i64 0, .int .i64 0, .slice none 0 0]) := by kernel_rfl
theorem ze_61 : (Try.prog.info? 61).bind (·.zero) = some (.agg #[.int .i64 0, .int .i64 0, .int .i64 0]) := by kernel_rfl


theorem chunk_eq {cap i : Nat} {at_ after least a nx : Int} {gs : List (Value × List Itm)} {v : SV} (ha : a = at_ + (i : Int) * (7 + 3 * (cap : Int))) (hn : nx = if i + 1 = gs.length then after else a + (7 + 3 * (cap : Int))) (hi : i < gs.length) :
    (hd ⟨a, gE (minsF least gs gs.length) (i : Int), ((gE gs (i : Int)).2.length : Int), 2 * min (max nx 0) 1073741824, 0, 0, 0, 0, v⟩, cellsP cap (gE gs (i : Int)).2 (gE gs (i : Int)).2.length) = chunkS cap at_ after least (gs.map (·.2)) i := by
  unfold chunkS hd
  rw [minsF_at hi, snd_at, List.length_map, ← ha, ← hn]
theorem c_Chunks {V : Value} {gs : List (Value × List Itm)} {th wd ver at_ after least : Int} {cap : Nat} (hL : gs.length ≤ 1000) (hc : 0 < cap ∧ cap ≤ 16) (hat : 0 ≤ at_ ∧ at_ ≤ 100000) (haf : 0 ≤ after ∧ after ≤ 100000) : Fn Try.prog 23 [.agg #[.int .i64 th, .int .i64 (cap : Int), .int .i64 wd, .int .i64 ver], .int .i64 at_, .int .i64 after, .int .i64 least, V] (nest iK V gs) [] (IsC 40 61 (chunksF cap at_ after least (gs.map (fun x : Value × List Itm => x.2)))) := by
  refine Fn.enter Try.func23 (by kernel_rfl) rfl (n := 98) rfl rfl (fun w => ?_)
  have hG : ∀ x ∈ gs, rdE iK x.1 x.2 ∈ nest iK V gs := fun x hx => .tail _ (List.mem_map.2 ⟨x, hx, rfl⟩)
  obtain ⟨hc1, hc2⟩ := hc
  have hml := minsF_len least gs gs.length
  refine At.seq ?_
  refine At.plain [(false, 0), (false, 1)] rfl ?_
  refine At.box rfl rfl rfl (.t rfl) (fun b1 hb1 => ⟨.all, ?_⟩)
  refine At.e rfl rfl rfl rfl .all (R.assign .c) ?_
  refine At.nil ?_
  refine At.tN ?_
  refine At.seq ?_
  refine At.plain [(false, 0)] rfl ?_
  refine At.e rfl rfl rfl rfl .all (R.assign .c) ?_
  refine At.nil ?_
  refine At.tN ?_
  refine At.seq ?_
  refine At.plain [(false, 0), (false, 1), (false, 2), (false, 3), (false, 4)] rfl ?_
  refine At.e rfl rfl rfl rfl .all (R.fieldAddr fo_24_1 (.t rfl)) ?_
  refine At.e rfl rfl rfl rfl .all (R.load Try.underlying3 rfl (.t rfl) (by exact cN M0 rfl)) ?_
  refine At.e rfl rfl rfl rfl .all (R.mulI .c (.t rfl) (fun hg => by omega)) ?_
  refine At.e rfl rfl rfl rfl .all (R.addI .c (.t rfl) (fun hg => by omega)) ?_
  refine At.e rfl rfl rfl rfl .all (R.assign (.t rfl)) ?_
  refine At.nil ?_
  refine At.tN ?_
  refine At.seq ?_
  refine At.seq ?_
  refine At.plain [(false, 0), (false, 1), (false, 2), (false, 3), (false, 4)] rfl ?_
  refine At.e rfl rfl rfl rfl .all (R.move (.t rfl)) ?_
  refine At.e rfl rfl rfl rfl .all (R.move (.t rfl)) ?_
  refine At.callRF rfl rfl rfl (.cons (.t rfl) (.cons (.t rfl) .nil)) (Rds.ofNest (rS M0) (fun x hx => rS (List.mem_append_left _ (hG x hx)))) (c_Mins hL) (fun vm => ⟨.all, ?_⟩)
  refine At.e rfl rfl rfl rfl .all (R.lenRd Try.underlying32 (.t rfl) (by exact wN M0)) ?_
  refine At.e rfl rfl rfl rfl .all (R.move .c) ?_
  refine At.nil ?_
  refine At.tN ?_
  refine At.block ?_
  refine At.nilRow chK 40 ?_
  refine At.loop4 (fun (i : Nat) (cs : List (Chk × List Cel)) (Vo : Value) (a : Int) => i ≤ gs.length ∧ cs.map (fun x => (hd x.1, x.2)) = (List.range i).map (chunkS cap at_ after least (gs.map (fun x : Value × List Itm => x.2))) ∧ a = at_ + (i : Int) * (7 + 3 * (cap : Int)) ∧ (0 ≤ a ∧ a ≤ 100000 + 55 * (i : Int)) ∧ (∀ j : Nat, j < i → (gE (gs.map (fun x : Value × List Itm => x.2)) (j : Int)).length ≤ cap) ∧ cs.length = i) (fun (i : Nat) (cs : List (Chk × List Cel)) (Vo : Value) (a : Int) => gs.length - i) (fun (i : Nat) (cs : List (Chk × List Cel)) (Vo : Value) (a : Int) => [(1, true, .int .i64 a), (2, true, .int .i64 after), (4, true, V), (5, true, .pointer (some ⟨b1, 0, none⟩)), (11, true, Vo), (12, true, .int .i64 (7 + 3 * (cap : Int))), (25, true, vm), (26, true, .int .i64 (minsF least gs gs.length).length), (27, true, .int .i64 i)]) (fun (i : Nat) (cs : List (Chk × List Cel)) (Vo : Value) (a : Int) => rowE chK 40 Vo (cs.map (·.1)) :: rowE zK 3 vm (minsF least gs gs.length) :: .blk b1 (.cells #[.int .i64 th, .int .i64 (cap : Int), .int .i64 wd, .int .i64 ver] 24) :: csg 61 cs) (fun (i : Nat) (cs : List (Chk × List Cel)) (Vo : Value) (a : Int) => []) (0) ([]) (.slice none 0 0) (at_) ⟨Nat.zero_le _, rfl, by omega, by omega, fun j h => absurd h (Nat.not_lt_zero _), rfl⟩ (.cons rfl (.cons rfl (.cons rfl (.cons rfl (.cons rfl (.cons rfl (.cons rfl (.cons rfl (.cons rfl .nil))))))))) (by (exact List.Sublist.refl _)) rfl (fun i cs Vo a hi => ?_)
  obtain ⟨hi1, hi2, hi3, hi4, hi5, hi6⟩ := hi
  refine At.seq ?_
  refine At.plain [(false, 0)] rfl ?_
  refine At.e rfl rfl rfl rfl .all (R.lss (.t rfl) (.t rfl)) ?_
  refine At.nil ?_
  refine At.tN ?_
  refine At.seq ?_
  refine At.condD (.t rfl) (fun c1 => ?_) (fun c1 => ?_)
  · skip
    refine At.skip ?_
    refine At.tN ?_
    refine At.seq ?_
    refine At.block ?_
    refine At.seq ?_
    refine At.plain [(false, 0), (false, 1), (false, 2), (false, 3), (false, 4)] rfl ?_
    refine At.e rfl rfl rfl rfl .all (R.move (.t rfl)) ?_
    refine At.e rfl rfl rfl rfl .all (R.indexRd Try.underlying32 sz_3 (.t rfl) (by exact wN M1) (.t rfl) (fun hg => (by omega))) ?_
    refine At.e rfl rfl rfl rfl .all (R.loadRd Try.underlying3 rfl (.t rfl) (by exact wN M1) (fun hg => by exact Ek.get0 rfl (by omega))) ?_
    refine At.e rfl rfl rfl rfl .all (R.assign (.t rfl)) ?_
    refine At.e rfl rfl rfl rfl .all (R.assign (.t rfl)) ?_
    refine At.nil ?_
    refine At.tN ?_
    refine At.seq ?_
    refine At.seq ?_
    refine At.drawK [(true, 0), (true, 1), (true, 2), (true, 3), (true, 4), (true, 5), (true, 6), (true, 7)] (by kernel_rfl) (by kernel_rfl) ?_
    refine At.s rfl rfl rfl rfl (Cl.kept fun _ h => h) (R.move (.t rfl)) ?_
    refine At.s rfl rfl rfl rfl (Cl.kept fun _ h => h) (R.move (.t rfl)) ?_
    refine At.s rfl rfl rfl rfl (Cl.kept fun _ h => h) (R.indexRd Try.underlying29 sz_22 (.t rfl) (by exact rK M0) (.t rfl) (fun hg => (by omega))) ?_
    refine At.s rfl rfl rfl rfl (Cl.kept fun _ h => h) (R.loadRd Try.underlying22 rfl (.t rfl) (by exact rK M0) (fun hg => by exact nestGet (by omega))) ?_
    refine At.s rfl rfl rfl rfl (Cl.kept fun _ h => h) (R.lenRd Try.underlying22 (.t rfl) (by exact nestK hG (by omega))) ?_
    refine At.s rfl rfl rfl rfl (Cl.kept fun _ h => h) (R.fieldAddr fo_24_1 (.t rfl)) ?_
    refine At.s rfl rfl rfl rfl (Cl.kept fun _ h => h) (R.load Try.underlying3 rfl (.t rfl) (by exact cKN M2 rfl)) ?_
    refine At.s rfl rfl rfl rfl (Cl.kept fun _ h => h) (R.gtr (.t rfl) (.t rfl)) ?_
    refine At.nil ?_
    refine At.tN ?_
    refine At.condD (.t rfl) (fun c2 => ?_) (fun c2 => ?_)
    · skip
      refine At.seq ?_
      refine At.nilRow chK 40 ?_
      refine At.plain [(false, 0)] rfl ?_
      refine At.e rfl rfl rfl rfl .all (R.assign .c) ?_
      refine At.nil ?_
      refine At.tN ?_
      refine At.ret ?_
      refine At.tR ?_
      refine At.bR ?_
      refine At.tR ?_
      refine At.tR ?_
      refine At.bR ?_
      refine At.tR ?_
      exact At.final (N' := [rowE chK 40 (.slice none 0 0) []]) rfl (.t rfl) (by (apply List.Sublist.cons_cons; exact List.nil_sublist _)) (⟨[], chunks_none (i := i) (by rw [List.length_map]; omega) (by rw [snd_at]; exact c2), rfl, rfl⟩)
    · skip
      refine At.skip ?_
      refine At.tN ?_
      refine At.seq ?_
      refine At.plain [(false, 0), (false, 1), (false, 2), (false, 3)] rfl ?_
      refine At.e rfl rfl rfl rfl .all (R.move (.t rfl)) ?_
      refine At.e rfl rfl rfl rfl .all (R.move (.t rfl)) ?_
      refine At.e rfl rfl rfl rfl .all (R.addI (.t rfl) (.t rfl) (fun hg => by omega)) ?_
      refine At.e rfl rfl rfl rfl .all (R.assign (.t rfl)) ?_
      refine At.nil ?_
      refine At.tN ?_
      refine At.seq ?_
      refine At.seq ?_
      refine At.plain [(false, 0), (false, 1), (false, 2), (false, 3), (false, 4)] rfl ?_
      refine At.e rfl rfl rfl rfl .all (R.move (.t rfl)) ?_
      refine At.e rfl rfl rfl rfl .all (R.move (.t rfl)) ?_
      refine At.e rfl rfl rfl rfl .all (R.lenRd Try.underlying29 (.t rfl) (by exact rS M0)) ?_
      refine At.e rfl rfl rfl rfl .all (R.subI (.t rfl) .c (fun hg => by omega)) ?_
      refine At.e rfl rfl rfl rfl .all (R.eql (.t rfl) (.t rfl)) ?_
      refine At.nil ?_
      refine At.tN ?_
      refine At.cut1 (fun (nx : Int) => nx = if i + 1 = gs.length then after else a + (7 + 3 * (cap : Int))) (fun (nx : Int) => [(1, true, .int .i64 a), (2, true, .int .i64 after), (4, true, V), (5, true, .pointer (some ⟨b1, 0, none⟩)), (11, true, Vo), (12, true, .int .i64 (7 + 3 * (cap : Int))), (25, true, vm), (26, true, .int .i64 (minsF least gs gs.length).length), (27, true, .int .i64 i), (13, true, .int .i64 i), (14, true, .int .i64 (gE (minsF least gs gs.length) (i : Int))), (15, true, .int .i64 nx)]) (fun (nx : Int) => rowE chK 40 Vo (cs.map (·.1)) :: rowE zK 3 vm (minsF least gs gs.length) :: .blk b1 (.cells #[.int .i64 th, .int .i64 (cap : Int), .int .i64 wd, .int .i64 ver] 24) :: csg 61 cs) (fun (nx : Int) => []) ?_ (fun nx hi => ?_)
      · skip
        refine At.condD (.t rfl) (fun c3 => ?_) (fun c3 => ?_)
        · skip
          refine At.plain [(false, 0), (false, 1)] rfl ?_
          refine At.e rfl rfl rfl rfl .all (R.move (.t rfl)) ?_
          refine At.e rfl rfl rfl rfl .all (R.assign (.t rfl)) ?_
          refine At.nil ?_
          refine At.tN ?_
          exact At.mid1 (after) (by rw [if_pos (by omega)]) (.cons rfl (.cons rfl (.cons rfl (.cons rfl (.cons rfl (.cons rfl (.cons rfl (.cons rfl (.cons rfl (.cons rfl (.cons rfl (.cons rfl .nil)))))))))))) (by (exact List.Sublist.refl _)) rfl
        · skip
          refine At.skip ?_
          refine At.tN ?_
          exact At.mid1 (a + (7 + 3 * (cap : Int))) (by rw [if_neg (by omega)]) (.cons rfl (.cons rfl (.cons rfl (.cons rfl (.cons rfl (.cons rfl (.cons rfl (.cons rfl (.cons rfl (.cons rfl (.cons rfl (.cons rfl .nil)))))))))))) (by (exact List.Sublist.refl _)) rfl
      · have hnx := hi; have hnb : 0 ≤ nx ∧ nx ≤ 1000000 := (by rw [hi]; split <;> omega)
        refine At.seq ?_
        refine At.draw2 [(true, 0), (true, 1), (true, 2), (true, 3), (true, 4), (true, 5), (true, 6), (true, 7), (true, 8), (true, 9), (true, 10), (true, 11), (true, 12)] 13 15 [(true, 14), (false, 15), (false, 16)] [(false, 13), (true, 14), (false, 16)] (by kernel_rfl) (by kernel_rfl) ?_
        refine At.s rfl rfl rfl rfl (Cl.kept fun _ h => h) (R.move (.t rfl)) ?_
        refine At.s rfl rfl rfl rfl (Cl.kept fun _ h => h) (R.move (.t rfl)) ?_
        refine At.s rfl rfl rfl rfl (Cl.kept fun _ h => h) (R.move (.t rfl)) ?_
        refine At.s rfl rfl rfl rfl (Cl.kept fun _ h => h) (R.move (.t rfl)) ?_
        refine At.s rfl rfl rfl rfl (Cl.kept fun _ h => h) (R.indexRd Try.underlying29 sz_22 (.t rfl) (by exact rK M0) (.t rfl) (fun hg => (by omega))) ?_
        refine At.s rfl rfl rfl rfl (Cl.kept fun _ h => h) (R.loadRd Try.underlying22 rfl (.t rfl) (by exact rK M0) (fun hg => by exact nestGet (by omega))) ?_
        refine At.s rfl rfl rfl rfl (Cl.kept fun _ h => h) (R.lenRd Try.underlying22 (.t rfl) (by exact nestK hG (by omega))) ?_
        refine At.s rfl rfl rfl rfl (Cl.kept fun _ h => h) (R.move (.t rfl)) ?_
        refine At.s rfl rfl rfl rfl (Cl.kept fun _ h => h) (R.max2 (.t rfl) .c) ?_
        refine At.s rfl rfl rfl rfl (Cl.kept fun _ h => h) (R.min2 (.t rfl) .c) ?_
        refine At.s rfl rfl rfl rfl (Cl.kept fun _ h => h) (R.mulI .c (.t rfl) (fun hg => by omega)) ?_
        refine At.s rfl rfl rfl rfl (Cl.kept fun _ h => h) (R.fieldAddr fo_24_1 (.t rfl)) ?_
        refine At.s rfl rfl rfl rfl (Cl.kept fun _ h => h) (R.load Try.underlying3 rfl (.t rfl) (by exact cKN M2 rfl)) ?_
        refine At.nil ?_
        refine At.join2 (β := Value × Nat) (fun x => [(1, true, .int .i64 a), (2, true, .int .i64 after), (4, true, V), (5, true, .pointer (some ⟨b1, 0, none⟩)), (11, true, Vo), (12, true, .int .i64 (7 + 3 * (cap : Int))), (25, true, vm), (26, true, .int .i64 (minsF least gs gs.length).length), (27, true, .int .i64 i), (13, true, .int .i64 i), (14, true, .int .i64 (gE (minsF least gs gs.length) (i : Int))), (15, true, .int .i64 nx), (16, true, .pointer (some ⟨x.2, 0, none⟩))]) (fun x => .blk x.2 (.cells #[.int .i64 a, .int .i64 (gE (minsF least gs gs.length) (i : Int)), .int .i64 ((gE gs (i : Int)).2.length : Int), .int .i64 (2 * min (max nx 0) 1073741824), .int .i64 0, .int .i64 0, .int .i64 0, .int .i64 0, x.1] 40) :: rowE cellK 61 x.1 (List.replicate cap ⟨0, 0, 0⟩) :: rowE chK 40 Vo (cs.map (·.1)) :: rowE zK 3 vm (minsF least gs gs.length) :: .blk b1 (.cells #[.int .i64 th, .int .i64 (cap : Int), .int .i64 wd, .int .i64 ver] 24) :: csg 61 cs) (fun x => ?_) (fun hj => ?_) (fun hj => ?_)
        · obtain ⟨xv, xb⟩ := x; dsimp only; refine At.rowOne (v := xv) (by (exact List.mem_append_right _ M1)) (fun h1x => ?_); refine At.rowForm (v := xv) (by (exact List.mem_append_right _ M1)) (by simp; omega) (fun gx capx hvx => ?_); subst hvx
          refine At.tN ?_
          refine At.seq ?_
          refine At.seq ?_
          refine At.plain [(false, 0), (false, 1), (false, 2), (false, 3), (false, 4), (false, 5)] rfl ?_
          refine At.e rfl rfl rfl rfl .all (R.move (.t rfl)) ?_
          refine At.e rfl rfl rfl rfl .all (R.move (.t rfl)) ?_
          refine At.e rfl rfl rfl rfl .all (R.indexRd Try.underlying29 sz_22 (.t rfl) (by exact rS M0) (.t rfl) (fun hg => (by omega))) ?_
          refine At.e rfl rfl rfl rfl .all (R.loadRd Try.underlying22 rfl (.t rfl) (by exact rS M0) (fun hg => by exact nestGet (by omega))) ?_
          refine At.e rfl rfl rfl rfl .all (R.lenRd Try.underlying22 (.t rfl) (by exact nestS hG (by omega))) ?_
          refine At.e rfl rfl rfl rfl .all (R.move .c) ?_
          refine At.nil ?_
          refine At.tN ?_
          refine At.block ?_
          refine At.re (N' := .blk xb (.cells #[.int .i64 a, .int .i64 (gE (minsF least gs gs.length) (i : Int)), .int .i64 ((gE gs (i : Int)).2.length : Int), .int .i64 (2 * min (max nx 0) 1073741824), .int .i64 0, .int .i64 0, .int .i64 0, .int .i64 0, (.slice (some ⟨gx, 0, none⟩) (List.replicate cap (⟨0, 0, 0⟩ : Cel)).length capx)] 40) :: .row (.slice (some ⟨gx, 0, none⟩) (List.replicate cap (⟨0, 0, 0⟩ : Cel)).length capx) 61 3 ((List.replicate cap (⟨0, 0, 0⟩ : Cel)).length) (cellK.all (cellsP cap (gE gs (i : Int)).2 0)) :: rowE chK 40 Vo (cs.map (·.1)) :: rowE zK 3 vm (minsF least gs gs.length) :: .blk b1 (.cells #[.int .i64 th, .int .i64 (cap : Int), .int .i64 wd, .int .i64 ver] 24) :: csg 61 cs) (by rw [cellsP_zero]) ?_
          refine At.loop1 (fun (k : Nat) => k ≤ (gE gs (i : Int)).2.length) (fun (k : Nat) => (gE gs (i : Int)).2.length - k) (fun (k : Nat) => [(1, true, .int .i64 a), (2, true, .int .i64 after), (4, true, V), (5, true, .pointer (some ⟨b1, 0, none⟩)), (11, true, Vo), (12, true, .int .i64 (7 + 3 * (cap : Int))), (25, true, vm), (26, true, .int .i64 (minsF least gs gs.length).length), (27, true, .int .i64 i), (13, true, .int .i64 i), (14, true, .int .i64 (gE (minsF least gs gs.length) (i : Int))), (15, true, .int .i64 nx), (16, true, .pointer (some ⟨xb, 0, none⟩)), (67, true, (gE gs (i : Int)).1), (68, true, .int .i64 (gE gs (i : Int)).2.length), (69, true, .int .i64 k)]) (fun (k : Nat) => .blk xb (.cells #[.int .i64 a, .int .i64 (gE (minsF least gs gs.length) (i : Int)), .int .i64 ((gE gs (i : Int)).2.length : Int), .int .i64 (2 * min (max nx 0) 1073741824), .int .i64 0, .int .i64 0, .int .i64 0, .int .i64 0, (.slice (some ⟨gx, 0, none⟩) (List.replicate cap (⟨0, 0, 0⟩ : Cel)).length capx)] 40) :: .row (.slice (some ⟨gx, 0, none⟩) (List.replicate cap (⟨0, 0, 0⟩ : Cel)).length capx) 61 3 ((List.replicate cap (⟨0, 0, 0⟩ : Cel)).length) (cellK.all (cellsP cap (gE gs (i : Int)).2 k)) :: rowE chK 40 Vo (cs.map (·.1)) :: rowE zK 3 vm (minsF least gs gs.length) :: .blk b1 (.cells #[.int .i64 th, .int .i64 (cap : Int), .int .i64 wd, .int .i64 ver] 24) :: csg 61 cs) (fun (k : Nat) => []) (0) (Nat.zero_le _) (.cons rfl (.cons rfl (.cons rfl (.cons rfl (.cons rfl (.cons rfl (.cons rfl (.cons rfl (.cons rfl (.cons rfl (.cons rfl (.cons rfl (.cons rfl (.cons rfl (.cons rfl (.cons rfl .nil)))))))))))))))) (by (exact List.Sublist.refl _)) rfl (fun k hi => ?_)
          have hM : (List.replicate cap (⟨0, 0, 0⟩ : Cel)).length = cap := List.length_replicate; have hcl : (cellsP cap (gE gs (i : Int)).2 k).length = (List.replicate cap (⟨0, 0, 0⟩ : Cel)).length := (by rw [cellsP_len hi (by omega), List.length_replicate])
          refine At.seq ?_
          refine At.plain [(false, 0)] rfl ?_
          refine At.e rfl rfl rfl rfl .all (R.lss (.t rfl) (.t rfl)) ?_
          refine At.nil ?_
          refine At.tN ?_
          refine At.seq ?_
          refine At.condD (.t rfl) (fun c4 => ?_) (fun c4 => ?_)
          · skip
            refine At.skip ?_
            refine At.tN ?_
            refine At.seq ?_
            refine At.block ?_
            refine At.seq ?_
            refine At.plain [(false, 0), (false, 1), (false, 2), (false, 3), (false, 4), (false, 5)] rfl ?_
            refine At.e rfl rfl rfl rfl .all (R.move (.t rfl)) ?_
            refine At.e rfl rfl rfl rfl .all (R.indexRd Try.underlying22 sz_43 (.t rfl) (by exact nestS hG (by omega)) (.t rfl) (fun hg => (by omega))) ?_
            refine At.e rfl rfl rfl rfl .all (R.loadRdAgg (us := iK.enc _) Try.underlying43 rfl sz_43 (.t rfl) (by exact nestS hG (by omega)) (fun hg => (by omega)) (fun hg => by exact Ek.getA (by omega))) ?_
            refine At.alloc rfl rfl rfl ze_43 (fun b2 hb2 => ⟨.all, ?_⟩)
            refine At.e rfl rfl rfl rfl .all (R.assign (.t rfl)) ?_
            refine At.stN rfl rfl sz_43 (.t rfl) (.t rfl) rfl rfl rfl (.n U0) ⟨.all, ?_⟩
            refine At.nil ?_
            refine At.tN ?_
            refine At.plain [(false, 0), (false, 1), (false, 2), (false, 3), (false, 4), (false, 5), (false, 6), (false, 7), (false, 8), (false, 9), (false, 10), (false, 11), (false, 12), (false, 13), (false, 14)] rfl ?_
            refine At.e rfl rfl rfl rfl .all (R.fieldAddr fo_40_8 (.t rfl)) ?_
            refine At.e rfl rfl rfl rfl .all (R.load Try.underlying38 rfl (.t rfl) (by exact cN M1 rfl)) ?_
            refine At.e rfl rfl rfl rfl .all (R.move (.t rfl)) ?_
            refine At.e rfl rfl rfl rfl .all (R.fieldAddr fo_43_1 (.t rfl)) ?_
            refine At.e rfl rfl rfl rfl .all (R.load Try.underlying3 rfl (.t rfl) (by exact cN M0 rfl)) ?_
            refine At.e rfl rfl rfl rfl .all (R.max2 (.t rfl) .c) ?_
            refine At.e rfl rfl rfl rfl .all (R.min2 (.t rfl) .c) ?_
            refine At.e rfl rfl rfl rfl .all (R.addI (.t rfl) .c (fun hg => by omega)) ?_
            refine At.e rfl rfl rfl rfl .all (R.fieldAddr fo_43_0 (.t rfl)) ?_
            refine At.e rfl rfl rfl rfl .all (R.load Try.underlying3 rfl (.t rfl) (by exact cN M0 rfl)) ?_
            refine At.e rfl rfl rfl rfl .all (R.fieldAddr fo_43_2 (.t rfl)) ?_
            refine At.e rfl rfl rfl rfl .all (R.load Try.underlying3 rfl (.t rfl) (by exact cN M0 rfl)) ?_
            refine At.e rfl rfl rfl rfl .all (R.build bt_61 (.cons (.t rfl) (.cons (.t rfl) (.cons (.t rfl) .nil))) (.cons rfl (.cons rfl (.cons rfl .nil))) rfl) ?_
            refine At.e rfl rfl rfl rfl .all (R.indexRd Try.underlying38 sz_61 (.t rfl) (by exact wN M2) (.t rfl) (fun hg => (by omega))) ?_
            refine At.stRow (k := cellK) (y := cellP (gE (gE gs (i : Int)).2 (k : Int))) rfl rfl sz_61 (.t rfl) (.t rfl) rfl (.n U2) (by omega) (by omega) ⟨.all, ?_⟩
            refine At.nil ?_
            refine At.bN ?_
            refine At.tN ?_
            refine At.plain [(false, 0), (false, 1)] rfl ?_
            refine At.e rfl rfl rfl rfl .all (R.addI (.t rfl) .c (fun hg => by omega)) ?_
            refine At.e rfl rfl rfl rfl .all (R.move (.t rfl)) ?_
            refine At.nil ?_
            refine At.re (N' := _ :: .blk xb (.cells #[.int .i64 a, .int .i64 (gE (minsF least gs gs.length) (i : Int)), .int .i64 ((gE gs (i : Int)).2.length : Int), .int .i64 (2 * min (max nx 0) 1073741824), .int .i64 0, .int .i64 0, .int .i64 0, .int .i64 0, (.slice (some ⟨gx, 0, none⟩) (List.replicate cap (⟨0, 0, 0⟩ : Cel)).length capx)] 40) :: .row (.slice (some ⟨gx, 0, none⟩) (List.replicate cap (⟨0, 0, 0⟩ : Cel)).length capx) 61 3 ((List.replicate cap (⟨0, 0, 0⟩ : Cel)).length) (cellK.all (cellsP cap (gE gs (i : Int)).2 (k + 1))) :: rowE chK 40 Vo (cs.map (·.1)) :: rowE zK 3 vm (minsF least gs gs.length) :: .blk b1 (.cells #[.int .i64 th, .int .i64 (cap : Int), .int .i64 wd, .int .i64 ver] 24) :: csg 61 cs) (by rw [← cellsP_step (by omega) (by omega)]) ?_
            refine At.tN ?_
            exact At.again1 (k + 1) (by omega) (by omega) (.cons rfl (.cons rfl (.cons rfl (.cons rfl (.cons rfl (.cons rfl (.cons rfl (.cons rfl (.cons rfl (.cons rfl (.cons rfl (.cons rfl (.cons rfl (.cons rfl (.cons rfl (.cons rfl .nil)))))))))))))))) (by (apply List.Sublist.cons; exact List.Sublist.refl _)) rfl
          · skip
            refine At.exit ?_
            refine At.tE ?_
            refine At.tE ?_
            refine At.bE ?_
            refine At.tN ?_
            refine At.seq ?_
            obtain rfl : k = (gE gs (i : Int)).2.length := (by omega)
            refine At.re (N' := .blk xb (.cells #[.int .i64 a, .int .i64 (gE (minsF least gs gs.length) (i : Int)), .int .i64 ((gE gs (i : Int)).2.length : Int), .int .i64 (2 * min (max nx 0) 1073741824), .int .i64 0, .int .i64 0, .int .i64 0, .int .i64 0, (.slice (some ⟨gx, 0, none⟩) (List.replicate cap (⟨0, 0, 0⟩ : Cel)).length capx)] 40) :: rowE cellK 61 (.slice (some ⟨gx, 0, none⟩) (List.replicate cap (⟨0, 0, 0⟩ : Cel)).length capx) (cellsP cap (gE gs (i : Int)).2 (gE gs (i : Int)).2.length) :: rowE chK 40 Vo (cs.map (·.1)) :: rowE zK 3 vm (minsF least gs gs.length) :: .blk b1 (.cells #[.int .i64 th, .int .i64 (cap : Int), .int .i64 wd, .int .i64 ver] 24) :: csg 61 cs) (by rw [row_cells (by omega)]) ?_
            refine At.plain [(false, 0), (false, 1), (false, 2), (false, 3), (false, 4)] rfl ?_
            refine At.e rfl rfl rfl rfl .all (R.move (.t rfl)) ?_
            refine At.e rfl rfl rfl rfl .all (R.loadAgg (vs := [_, _, _, _, _, _, _, _, _]) Try.underlying40 rfl sz_40 (.t rfl) (by exact csN M0 ⟨rfl, rfl, rfl, rfl, rfl, rfl, rfl, rfl, rfl, trivial⟩)) ?_
            refine At.lit (k := chK) rfl rfl rfl Try.underlying35 et_40 (.cons (.t rfl) .nil) (.cons (y := ⟨a, (gE (minsF least gs gs.length) (i : Int)), ((gE gs (i : Int)).2.length : Int), 2 * min (max nx 0) 1073741824, 0, 0, 0, 0, ⟨(.slice (some ⟨gx, 0, none⟩) (List.replicate cap (⟨0, 0, 0⟩ : Cel)).length capx), h1x⟩⟩) rfl .nil) rfl rfl rfl (fun v1 => ⟨.all, ?_⟩)
            refine At.app (k := chK) rfl rfl rfl Try.underlying35 et_40 (.t rfl) (.t rfl) (fun _ => by (exact U3)) (by exact wN M0) (by (simp <;> omega)) (fun v2 => ⟨.all, ?_⟩)
            refine At.e rfl rfl rfl rfl .all (R.assign (.t rfl)) ?_
            refine At.nil ?_
            refine At.tN ?_
            refine At.weak (fun _ _ h => h) (N' := rowE cellK 61 (.slice (some ⟨gx, 0, none⟩) (List.replicate cap (⟨0, 0, 0⟩ : Cel)).length capx) (cellsP cap (gE gs (i : Int)).2 (gE gs (i : Int)).2.length) :: ([rowE chK 40 v2 (cs.map (·.1) ++ [⟨a, (gE (minsF least gs gs.length) (i : Int)), ((gE gs (i : Int)).2.length : Int), 2 * min (max nx 0) 1073741824, 0, 0, 0, 0, ⟨(.slice (some ⟨gx, 0, none⟩) (List.replicate cap (⟨0, 0, 0⟩ : Cel)).length capx), h1x⟩⟩]), rowE zK 3 vm (minsF least gs gs.length), .blk b1 (.cells #[.int .i64 th, .int .i64 (cap : Int), .int .i64 wd, .int .i64 ver] 24)] ++ csg 61 cs)) (by (apply List.Sublist.cons; apply List.Sublist.cons; exact List.Sublist.refl _)) ?_
            refine At.plain [(false, 0), (false, 1), (false, 2), (false, 3)] rfl ?_
            refine At.e rfl rfl rfl rfl .all (R.move (.t rfl)) ?_
            refine At.e rfl rfl rfl rfl .all (R.move (.t rfl)) ?_
            refine At.e rfl rfl rfl rfl .all (R.addI (.t rfl) (.t rfl) (fun hg => by omega)) ?_
            refine At.e rfl rfl rfl rfl .all (R.assign (.t rfl)) ?_
            refine At.nil ?_
            refine At.bN ?_
            refine At.tN ?_
            refine At.plain [(false, 0), (false, 1)] rfl ?_
            refine At.e rfl rfl rfl rfl .all (R.addI (.t rfl) .c (fun hg => by omega)) ?_
            refine At.e rfl rfl rfl rfl .all (R.move (.t rfl)) ?_
            refine At.nil ?_
            refine At.csNew (A := [rowE chK 40 v2 (cs.map (·.1) ++ [⟨a, (gE (minsF least gs gs.length) (i : Int)), ((gE gs (i : Int)).2.length : Int), 2 * min (max nx 0) 1073741824, 0, 0, 0, 0, ⟨(.slice (some ⟨gx, 0, none⟩) (List.replicate cap (⟨0, 0, 0⟩ : Cel)).length capx), h1x⟩⟩]), rowE zK 3 vm (minsF least gs gs.length), .blk b1 (.cells #[.int .i64 th, .int .i64 (cap : Int), .int .i64 wd, .int .i64 ver] 24)]) (x := ⟨a, (gE (minsF least gs gs.length) (i : Int)), ((gE gs (i : Int)).2.length : Int), 2 * min (max nx 0) 1073741824, 0, 0, 0, 0, ⟨(.slice (some ⟨gx, 0, none⟩) (List.replicate cap (⟨0, 0, 0⟩ : Cel)).length capx), h1x⟩⟩) (ys := cellsP cap (gE gs (i : Int)).2 (gE gs (i : Int)).2.length) ?_
            refine At.re (N' := rowE chK 40 v2 ((cs ++ [((⟨a, (gE (minsF least gs gs.length) (i : Int)), ((gE gs (i : Int)).2.length : Int), 2 * min (max nx 0) 1073741824, 0, 0, 0, 0, ⟨(.slice (some ⟨gx, 0, none⟩) (List.replicate cap (⟨0, 0, 0⟩ : Cel)).length capx), h1x⟩⟩ : Chk), cellsP cap (gE gs (i : Int)).2 (gE gs (i : Int)).2.length)]).map (·.1)) :: rowE zK 3 vm (minsF least gs gs.length) :: .blk b1 (.cells #[.int .i64 th, .int .i64 (cap : Int), .int .i64 wd, .int .i64 ver] 24) :: csg 61 (cs ++ [((⟨a, (gE (minsF least gs gs.length) (i : Int)), ((gE gs (i : Int)).2.length : Int), 2 * min (max nx 0) 1073741824, 0, 0, 0, 0, ⟨(.slice (some ⟨gx, 0, none⟩) (List.replicate cap (⟨0, 0, 0⟩ : Cel)).length capx), h1x⟩⟩ : Chk), cellsP cap (gE gs (i : Int)).2 (gE gs (i : Int)).2.length)])) (by rw [List.map_append]; rfl) ?_
            refine At.tN ?_
            exact At.again4 (i + 1) ((cs ++ [((⟨a, (gE (minsF least gs gs.length) (i : Int)), ((gE gs (i : Int)).2.length : Int), 2 * min (max nx 0) 1073741824, 0, 0, 0, 0, ⟨(.slice (some ⟨gx, 0, none⟩) (List.replicate cap (⟨0, 0, 0⟩ : Cel)).length capx), h1x⟩⟩ : Chk), cellsP cap (gE gs (i : Int)).2 (gE gs (i : Int)).2.length)])) (v2) (a + (7 + 3 * (cap : Int))) ⟨by omega, by rw [List.map_append, hi2, range_snoc]; exact congrArg (fun z => _ ++ [z]) (chunk_eq hi3 hnx (by omega)), by rw [hi3, mul_step]; omega, by omega, fun j h => by (rcases Nat.lt_or_ge j i with h1 | h1); exact hi5 j h1; (have : j = i := (by omega)); subst this; rw [snd_at]; omega, by simp; omega⟩ (by omega) (.cons rfl (.cons rfl (.cons rfl (.cons rfl (.cons rfl (.cons rfl (.cons rfl (.cons rfl (.cons rfl .nil))))))))) (by (exact List.Sublist.refl _)) rfl
        · skip
          refine At.makeSl (k := cellK) (z := ⟨0, 0, 0⟩) rfl rfl rfl Try.underlying38 et_61 ze_61 rfl (.t rfl) (.t rfl) (by refine ⟨?_, ?_⟩ <;> first | omega | (simp; omega)) (fun v3 => ⟨(Cl.kept (by (exact keepOf (by (apply List.Sublist.cons_cons; apply List.Sublist.append_left; apply List.Sublist.cons; exact List.Sublist.refl _))))), ?_⟩)
          refine At.rowOne (v := v3) (by (exact List.mem_append_right _ M0)) (fun h1v => ?_)
          refine At.s rfl rfl rfl rfl (Cl.kept (by (exact keepOf (by (apply List.Sublist.cons_cons; apply List.Sublist.append_left; apply List.Sublist.cons; exact List.Sublist.refl _))))) (R.build (cs := [.int .i64 a, .int .i64 (gE (minsF least gs gs.length) (i : Int)), .int .i64 ((gE gs (i : Int)).2.length : Int), .int .i64 (2 * min (max nx 0) 1073741824), .int .i64 0, .int .i64 0, .int .i64 0, .int .i64 0, v3]) bt_40 (.cons (.t rfl) (.cons (.t rfl) (.cons (.t rfl) (.cons (.t rfl) (.cons (.t rfl) .nil))))) (.cons rfl (.cons rfl (.cons rfl (.cons rfl (.cons (c := [_]) (cells_one h1v) .nil))))) rfl) ?_
          refine At.alloc rfl rfl rfl ze_40 (fun b2 hb2 => ⟨(Cl.kept (by (exact keepOf (by (apply List.Sublist.cons_cons; apply List.Sublist.append_left; apply List.Sublist.cons; apply List.Sublist.cons; exact List.Sublist.refl _))))), ?_⟩)
          refine At.rowOne (v := v3) (by (exact List.mem_append_right _ M1)) (fun h1v => ?_)
          refine At.stAll (vs := [.int .i64 a, .int .i64 (gE (minsF least gs gs.length) (i : Int)), .int .i64 ((gE gs (i : Int)).2.length : Int), .int .i64 (2 * min (max nx 0) 1073741824), .int .i64 0, .int .i64 0, .int .i64 0, .int .i64 0, v3]) rfl rfl sz_40 (.t rfl) (.t rfl) (hone9 h1v) rfl rfl (.n U0) ⟨(Cl.kept (by (exact keepOf (by (apply List.Sublist.cons_cons; apply List.Sublist.append_left; apply List.Sublist.cons; apply List.Sublist.cons; exact List.Sublist.refl _))))), ?_⟩
          refine At.nil ?_
          exact hj (v3, b2) _ _ (Sub.look (.cons rfl (.cons rfl (.cons rfl (.cons rfl (.cons rfl (.cons rfl (.cons rfl (.cons rfl (.cons rfl (.cons rfl (.cons rfl (.cons rfl (.cons rfl .nil)))))))))))))) (by (exact List.Sublist.refl _))
        · skip
          refine At.alloc rfl rfl rfl ze_40 (fun b3 hb3 => ⟨(Cl.kept (by (exact keepOf (by (apply List.Sublist.cons_cons; apply List.Sublist.append_left; apply List.Sublist.cons; exact List.Sublist.refl _))))), ?_⟩)
          refine At.makeSl (k := cellK) (z := ⟨0, 0, 0⟩) rfl rfl rfl Try.underlying38 et_61 ze_61 rfl (.t rfl) (.t rfl) (by refine ⟨?_, ?_⟩ <;> first | omega | (simp; omega)) (fun v4 => ⟨(Cl.kept (by (exact keepOf (by (apply List.Sublist.cons_cons; apply List.Sublist.append_left; apply List.Sublist.cons; apply List.Sublist.cons; exact List.Sublist.refl _))))), ?_⟩)
          refine At.rowOne (v := v4) (by (exact List.mem_append_right _ M0)) (fun h1v => ?_)
          refine At.s rfl rfl rfl rfl (Cl.kept (by (exact keepOf (by (apply List.Sublist.cons_cons; apply List.Sublist.append_left; apply List.Sublist.cons; apply List.Sublist.cons; exact List.Sublist.refl _))))) (R.build (cs := [.int .i64 a, .int .i64 (gE (minsF least gs gs.length) (i : Int)), .int .i64 ((gE gs (i : Int)).2.length : Int), .int .i64 (2 * min (max nx 0) 1073741824), .int .i64 0, .int .i64 0, .int .i64 0, .int .i64 0, v4]) bt_40 (.cons (.t rfl) (.cons (.t rfl) (.cons (.t rfl) (.cons (.t rfl) (.cons (.t rfl) .nil))))) (.cons rfl (.cons rfl (.cons rfl (.cons rfl (.cons (c := [_]) (cells_one h1v) .nil))))) rfl) ?_
          refine At.rowOne (v := v4) (by (exact List.mem_append_right _ M0)) (fun h1v => ?_)
          refine At.stAll (vs := [.int .i64 a, .int .i64 (gE (minsF least gs gs.length) (i : Int)), .int .i64 ((gE gs (i : Int)).2.length : Int), .int .i64 (2 * min (max nx 0) 1073741824), .int .i64 0, .int .i64 0, .int .i64 0, .int .i64 0, v4]) rfl rfl sz_40 (.t rfl) (.t rfl) (hone9 h1v) rfl rfl (.n U1) ⟨(Cl.kept (by (exact keepOf (by (apply List.Sublist.cons_cons; apply List.Sublist.append_left; apply List.Sublist.cons; apply List.Sublist.cons; exact List.Sublist.refl _))))), ?_⟩
          refine At.nil ?_
          refine At.perm (List.Perm.swap _ _ _) ?_
          exact hj (v4, b3) _ _ (Sub.look (.cons rfl (.cons rfl (.cons rfl (.cons rfl (.cons rfl (.cons rfl (.cons rfl (.cons rfl (.cons rfl (.cons rfl (.cons rfl (.cons rfl (.cons rfl .nil)))))))))))))) (by (exact List.Sublist.refl _))
  · skip
    refine At.exit ?_
    refine At.tE ?_
    refine At.tE ?_
    refine At.bE ?_
    refine At.tN ?_
    refine At.seq ?_
    refine At.plain [(false, 0), (false, 1)] rfl ?_
    refine At.e rfl rfl rfl rfl .all (R.move (.t rfl)) ?_
    refine At.e rfl rfl rfl rfl .all (R.assign (.t rfl)) ?_
    refine At.nil ?_
    refine At.tN ?_
    refine At.ret ?_
    exact At.final (N' := rowE chK 40 Vo (cs.map (·.1)) :: csg 61 cs) rfl (.t rfl) (by (apply List.Sublist.cons_cons; apply List.Sublist.cons; apply List.Sublist.cons; exact List.Sublist.refl _)) (⟨cs, by rw [hi2]; exact chunks_all (by rw [List.length_map]; omega) hi5, rfl, rfl⟩)

end Go.Proofs.Ytejpanipdjknjaa
