/- Part of the proof: lemmas for what the last file states; no condition. -/
import Derived.Test.YtbolanigdkgbdaaGreatZF7
set_option linter.unusedSectionVars false
namespace Go.Proofs.YtbolanigdkgbdaaGreat
open Go Go.RowKit
set_option maxRecDepth 10000
set_option linter.unusedVariables false
theorem bt_237 : buildTab Tryz.prog 237 = some (#[.int .i64 0, .int .i64 0, .int .i64 0, .int .i64 0, .int .i64 0, .int .i64 0, .int .i64 0, .int .i64 0, .slice none 0 0], [(0, 1), (1, 1), (2, 1), (3, 1), (4, 1), (5, 1), (6, 1), (7, 1), (8, 1)]) := by kernel_rfl
theorem bt_239 : buildTab Tryz.prog 239 = some (#[.int .i64 0, .int .i64 0, .int .i64 0], [(0, 1), (1, 1), (2, 1)]) := by kernel_rfl
theorem et_237 : elemTab Tryz.prog 237 = some (9, 88) := by kernel_rfl
theorem et_239 : elemTab Tryz.prog 239 = some (3, 24) := by kernel_rfl
theorem fo_237_0 : fieldOff? Tryz.prog 237 0 = some 0 := by kernel_rfl
theorem fo_237_3 : fieldOff? Tryz.prog 237 3 = some 3 := by kernel_rfl
theorem fo_237_8 : fieldOff? Tryz.prog 237 8 = some 8 := by kernel_rfl
theorem sz_237 : (Tryz.prog.info? 237).map (·.size) = some 9 := by kernel_rfl
theorem sz_239 : (Tryz.prog.info? 239).map (·.size) = some 3 := by kernel_rfl
theorem ze_237 : (Tryz.prog.info? 237).bind (·.zero) = some (.agg #[.int .i64 0, .int .i64 0, .int .i64 0, .int .i64 0, .int .i64 0, .int .i64 0, .int .i64 0, .int .i64 0, .slice none 0 0]) := by kernel_rfl
theorem ze_239 : (Tryz.prog.info? 239).bind (·.zero) = some (.agg #[.int .i64 0, .int .i64 0, .int .i64 0]) := by kernel_rfl
theorem chunk_eq2 {cap i : Nat} {at_ after least nw : Int} {gs : List (Value × List Itm)} {v : SV} (hn : nw = max 0 (min (if i + 1 < gs.length then at_ + (i : Int) * (7 + 3 * (cap : Int)) + (7 + 3 * (cap : Int)) else after) 1073741824) * 2) (hi : i < gs.length) :
    (hd ⟨at_ + (i : Int) * (7 + 3 * (cap : Int)), gE (minsF least gs gs.length) (i : Int), ((gE gs (i : Int)).2.length : Int), nw, 0, 0, 0, 0, v⟩, cellsP cap (gE gs (i : Int)).2 (gE gs (i : Int)).2.length) = chunkS cap at_ after least (gs.map (fun x : Value × List Itm => x.2)) i := by
  unfold chunkS hd
  rw [minsF_at hi, snd_at, List.length_map, hn]
  have : (if i + 1 < gs.length then at_ + (i : Int) * (7 + 3 * (cap : Int)) + (7 + 3 * (cap : Int)) else after) = (if i + 1 = gs.length then after else at_ + (i : Int) * (7 + 3 * (cap : Int)) + (7 + 3 * (cap : Int))) := by
    by_cases h : i + 1 = gs.length
    · rw [if_pos h, if_neg (by omega)]
    · rw [if_neg h, if_pos (by omega)]
  rw [this]
  have e : ∀ x : Int, max 0 (min x 1073741824) * 2 = 2 * min (max x 0) 1073741824 := fun x => by omega
  rw [e]
theorem cellP_eq (x : Itm) : cellP x = ⟨max 0 (min x.ver 16777212) + 3, x.key, x.data⟩ := by
  unfold cellP
  have : min (max x.ver 0) 16777212 = max 0 (min x.ver 16777212) := by omega
  rw [this]
theorem c_rSize {th wd ver : Int} {cap : Nat} (hc : cap ≤ 16) : Fn Tryz.prog 110 [.agg #[.int .i64 th, .int .i64 (cap : Int), .int .i64 wd, .int .i64 ver]] [] [] (IsV (.int .i64 (7 + 3 * (cap : Int)))) := r_Size (by omega)
theorem c_rNext {s : Int} : Fn Tryz.prog 96 [.int .i64 s, .bool false] [] [] (IsV (.int .i64 (max 0 (min s 1073741824) * 2))) := by
  have h := r_Next (at_ := s) (m := false)
  rwa [show nextD s false = max 0 (min s 1073741824) * 2 by simp [nextD]] at h
theorem c_rState {s : Int} : Fn Tryz.prog 18 [.int .i64 s] [] [] (IsV (.int .i64 (max 0 (min s 16777212) + 3))) := by
  have h := r_State (s := s)
  rwa [show min (max s 0) 16777212 + 3 = max 0 (min s 16777212) + 3 by omega] at h
theorem c_rChunks {V : Value} {gs : List (Value × List Itm)} {th wd ver at_ after least : Int} {cap : Nat} (hL : gs.length ≤ 1000) (hc : 0 < cap ∧ cap ≤ 16) (hat : -2305843009213693952 ≤ at_ ∧ at_ ≤ 2305843009213693952) (haf : -2305843009213693952 ≤ after ∧ after ≤ 2305843009213693952) : Fn Tryz.prog 172 [.agg #[.int .i64 th, .int .i64 (cap : Int), .int .i64 wd, .int .i64 ver], .int .i64 at_, .int .i64 after, .int .i64 least, V] (nest iK V gs) [] (IsC 237 239 (chunksF cap at_ after least (gs.map (fun x : Value × List Itm => x.2)))) := by
 refine Fn.enter Tryz.func172 (by kernel_rfl) rfl (n := 100) rfl rfl (fun w => ?_)
 have hG : ∀ x ∈ gs, rdE iK x.1 x.2 ∈ nest iK V gs := fun x hx => .tail _ (List.mem_map.2 ⟨x, hx, rfl⟩)
 obtain ⟨hc1, hc2⟩ := hc
 have hml := minsF_len least gs gs.length
 refine W ?_
 refine At.box rfl rfl rfl (.t rfl) (fun b1 hb1 => ⟨.all, ?_⟩)
 refine W ?_
 refine At.callRF rfl rfl rfl (.k rfl (.k rfl .nil)) (Rds.ofNest (rS M0) (fun x hx => rS (List.mem_append_left _ (hG x hx)))) (c_rMins hL) (fun vm => ⟨.all, ?_⟩)
 refine W ?_
 refine At.nilRow chK 237 ?_
 refine At.loop3 (fun (i : Nat) (cs : List (Chk × List Cel)) (Vo : Value) => i ≤ gs.length ∧ cs.map (fun x => (hd x.1, x.2)) = (List.range i).map (chunkS cap at_ after least (gs.map (fun x : Value × List Itm => x.2))) ∧ (0 ≤ (i : Int) * (7 + 3 * (cap : Int)) ∧ (i : Int) * (7 + 3 * (cap : Int)) ≤ 55 * (i : Int)) ∧ (∀ j : Nat, j < i → (gE (gs.map (fun x : Value × List Itm => x.2)) (j : Int)).length ≤ cap) ∧ cs.length = i) (fun (i : Nat) (cs : List (Chk × List Cel)) (Vo : Value) => gs.length - i) (fun (i : Nat) (cs : List (Chk × List Cel)) (Vo : Value) => [(1, true, .int .i64 at_), (2, true, .int .i64 after), (4, true, V), (5, true, .pointer (some ⟨b1, 0, none⟩)), (11, true, vm), (12, true, Vo), (13, true, .int .i64 i)]) (fun (i : Nat) (cs : List (Chk × List Cel)) (Vo : Value) => rowE chK 237 Vo (cs.map (·.1)) :: rowE zK 3 vm (minsF least gs gs.length) :: .blk b1 (.cells #[.int .i64 th, .int .i64 (cap : Int), .int .i64 wd, .int .i64 ver] 23) :: csg 239 cs) (fun (i : Nat) (cs : List (Chk × List Cel)) (Vo : Value) => []) (0) ([]) (.slice none 0 0) ⟨Nat.zero_le _, rfl, by omega, fun j h => absurd h (Nat.not_lt_zero _), rfl⟩ (.cons rfl (.cons rfl (.cons rfl (.cons rfl (.cons rfl (.cons rfl (.cons rfl .nil))))))) (List.Sublist.refl _) rfl (fun i cs Vo hi => ?_)
 obtain ⟨hi1, hi2, hi4, hi5, hi6⟩ := hi
 refine Z ?_
 refine At.condD (.t rfl) (fun c1 => ?_) (fun c1 => ?_)
 ·
  refine W ?_
  refine At.drawK [tt 0, tt 1, tt 2, tt 3, tt 4, tt 5, tt 6, tt 7] (by kernel_rfl) (by kernel_rfl) ?_
  refine U ?_
  refine sJ rfl (R.indexRd Tryz.underlying202 sz_40 (.t rfl) (rK M0) (.t rfl) gO) ?_
  refine sJ rfl (R.loadRd Tryz.underlying40 rfl (.t rfl) (rK M0) (fun hg => by exact nestGet (by omega))) ?_
  refine sJ rfl (R.lenRd Tryz.underlying40 (.t rfl) (by exact nestK hG (by omega))) ?_
  refine U ?_
  refine sJ rfl (R.gtr (.t rfl) (.t rfl)) ?_
  refine U ?_
  refine At.condD (.t rfl) (fun c2 => ?_) (fun c2 => ?_)
  ·
   refine W ?_
   refine At.nilRow chK 237 ?_
   refine W ?_
   exact At.final (N' := [rowE chK 237 (.slice none 0 0) []]) rfl (.t rfl) sl (⟨[], chunks_none (i := i) (by rw [List.length_map]; omega) (by rw [snd_at]; exact c2), rfl, rfl⟩)
  ·
   refine W ?_
   refine At.drawB [tt 0, tt 1, tt 2, tt 6, tt 7, tt 8, tt 9, tt 10, tt 11, tt 12, tt 13, tt 14, tt 15, tt 17, tt 18] (.three 3 19 21 [tt 4, tt 5] (.three 16 19 21 [] (.two 19 21 [tt 20, ff 21, ff 22] .done [ff 19, tt 20, ff 22] .done) [] (.two 16 21 [tt 20, ff 21, ff 22] .done [ff 16, tt 20, ff 22] .done) [] (.two 16 19 [ff 19, tt 20, ff 22] .done [ff 16, tt 20, ff 22] .done)) [] (.two 3 21 [tt 4, tt 5] (.two 16 21 [tt 20, ff 21, ff 22] .done [ff 16, tt 20, ff 22] .done) [ff 3, tt 4, tt 5, ff 16, tt 20, ff 22] .done) [] (.two 3 19 [tt 4, tt 5] (.two 16 19 [ff 19, tt 20, ff 22] .done [ff 16, tt 20, ff 22] .done) [ff 3, tt 4, tt 5, ff 16, tt 20, ff 22] .done)) (by kernel_rfl) (by kernel_rfl) ?_
   refine U ?_
   refine sJ rfl (R.loadAgg (vs := [_, _, _, _]) Tryz.underlying23 rfl sz_23 (.t rfl) (csKN M2 ⟨rfl, rfl, rfl, rfl, trivial⟩)) ?_
   refine U ?_
   refine sJ rfl (R.indexRd Tryz.underlying25 sz_3 (.t rfl) (wKN M1) (.t rfl) gO) ?_
   refine sJ rfl (R.loadRd Tryz.underlying3 rfl (.t rfl) (wKN M1) (fun hg => by exact Ek.get0 rfl (by omega))) ?_
   refine U ?_
   refine sJ rfl (R.indexRd Tryz.underlying202 sz_40 (.t rfl) (rK M0) (.t rfl) gO) ?_
   refine sJ rfl (R.loadRd Tryz.underlying40 rfl (.t rfl) (rK M0) (fun hg => by exact nestGet (by omega))) ?_
   refine sJ rfl (R.lenRd Tryz.underlying40 (.t rfl) (by exact nestK hG (by omega))) ?_
   refine U ?_
   refine At.joinB (β := Value × Nat) (fun x => [(1, true, .int .i64 at_), (2, true, .int .i64 after), (4, true, V), (5, true, .pointer (some ⟨b1, 0, none⟩)), (11, true, vm), (12, true, Vo), (13, true, .int .i64 i), (14, true, .pointer (some ⟨x.2, 0, none⟩))]) (fun x => .blk x.2 (.cells #[.int .i64 (at_ + (i : Int) * (7 + 3 * (cap : Int))), .int .i64 (gE (minsF least gs gs.length) (i : Int)), .int .i64 ((gE gs (i : Int)).2.length : Int), .int .i64 (max 0 (min after 1073741824) * 2), .int .i64 0, .int .i64 0, .int .i64 0, .int .i64 0, x.1] 237) :: rowE cellK 239 x.1 (List.replicate cap ⟨0, 0, 0⟩) :: rowE chK 237 Vo (cs.map (·.1)) :: rowE zK 3 vm (minsF least gs gs.length) :: .blk b1 (.cells #[.int .i64 th, .int .i64 (cap : Int), .int .i64 wd, .int .i64 ver] 23) :: csg 239 cs) (fun x => ?_) (fun hj => ?_)
   ·
    obtain ⟨xv, xb⟩ := x; dsimp only; refine At.rowOne (v := xv) (List.mem_append_right _ M1) (fun h1x => ?_); refine At.rowForm (v := xv) (List.mem_append_right _ M1) (by simp; omega) (fun gx capx hvx => ?_); subst hvx
    refine Z ?_
    refine At.cut1 (fun (nw : Int) => nw = max 0 (min (if i + 1 < gs.length then at_ + (i : Int) * (7 + 3 * (cap : Int)) + (7 + 3 * (cap : Int)) else after) 1073741824) * 2) (fun (nw : Int) => [(1, true, .int .i64 at_), (2, true, .int .i64 after), (4, true, V), (5, true, .pointer (some ⟨b1, 0, none⟩)), (11, true, vm), (12, true, Vo), (13, true, .int .i64 i), (14, true, .pointer (some ⟨xb, 0, none⟩))]) (fun (nw : Int) => .blk xb (.cells #[.int .i64 (at_ + (i : Int) * (7 + 3 * (cap : Int))), .int .i64 (gE (minsF least gs gs.length) (i : Int)), .int .i64 ((gE gs (i : Int)).2.length : Int), .int .i64 (nw), .int .i64 0, .int .i64 0, .int .i64 0, .int .i64 0, (.slice (some ⟨gx, 0, none⟩) (List.replicate cap (⟨0, 0, 0⟩ : Cel)).length capx)] 237) :: rowE cellK 239 (.slice (some ⟨gx, 0, none⟩) (List.replicate cap (⟨0, 0, 0⟩ : Cel)).length capx) (List.replicate cap ⟨0, 0, 0⟩) :: rowE chK 237 Vo (cs.map (·.1)) :: rowE zK 3 vm (minsF least gs gs.length) :: .blk b1 (.cells #[.int .i64 th, .int .i64 (cap : Int), .int .i64 wd, .int .i64 ver] 23) :: csg 239 cs) (fun (nw : Int) => []) ?_ (fun nw hi => ?_)
    ·
     refine At.condD (.t rfl) (fun c3 => ?_) (fun c3 => ?_)
     ·
      refine At.drawL ([]) [tt 0] [tt 1, tt 2, ff 3, tt 4, ff 5, tt 6] [ff 7] (by (exact keepOf (List.nil_sublist _))) (by kernel_rfl) (by kernel_rfl) ?_
      refine sC rfl Cl.none (R.fieldAddr fo_237_0 (.t rfl)) ?_
      refine At.stage kI ?_
      refine W ?_
      refine At.callVR rfl rfl rfl (.k rfl .nil) (.nil) (fun hg => c_rSize (by omega)) kI ?_
      refine W ?_
      refine At.callVR rfl rfl rfl (.k rfl (.kc .nil)) (.nil) (fun hg => c_rNext (s := at_ + (i : Int) * (7 + 3 * (cap : Int)) + (7 + 3 * (cap : Int)))) kI ?_
      refine sJ rfl (R.fieldAddr fo_237_3 (.t rfl)) ?_
      refine At.stage Cl.none ?_
      refine At.st1 rfl rfl sz_3 (.t rfl) (.t rfl) rfl rfl (.n U0) ⟨Cl.none, ?_⟩
      refine W ?_
      exact At.mid1 (max 0 (min (at_ + (i : Int) * (7 + 3 * (cap : Int)) + (7 + 3 * (cap : Int))) 1073741824) * 2) (by rw [if_pos (by omega)]) (.cons rfl (.cons rfl (.cons rfl (.cons rfl (.cons rfl (.cons rfl (.cons rfl (.cons rfl .nil)))))))) (List.Sublist.refl _) rfl
     ·
      refine W ?_
      exact At.mid1 (max 0 (min after 1073741824) * 2) (by rw [if_neg (by omega)]) (.cons rfl (.cons rfl (.cons rfl (.cons rfl (.cons rfl (.cons rfl (.cons rfl (.cons rfl .nil)))))))) (List.Sublist.refl _) rfl
    ·
     have hnx := hi
     refine W ?_
     refine At.re (N' := .blk xb (.cells #[.int .i64 (at_ + (i : Int) * (7 + 3 * (cap : Int))), .int .i64 (gE (minsF least gs gs.length) (i : Int)), .int .i64 ((gE gs (i : Int)).2.length : Int), .int .i64 (nw), .int .i64 0, .int .i64 0, .int .i64 0, .int .i64 0, (.slice (some ⟨gx, 0, none⟩) (List.replicate cap (⟨0, 0, 0⟩ : Cel)).length capx)] 237) :: .row (.slice (some ⟨gx, 0, none⟩) (List.replicate cap (⟨0, 0, 0⟩ : Cel)).length capx) 239 3 ((List.replicate cap (⟨0, 0, 0⟩ : Cel)).length) (cellK.all (cellsP cap (gE gs (i : Int)).2 0)) :: rowE chK 237 Vo (cs.map (·.1)) :: rowE zK 3 vm (minsF least gs gs.length) :: .blk b1 (.cells #[.int .i64 th, .int .i64 (cap : Int), .int .i64 wd, .int .i64 ver] 23) :: csg 239 cs) (by rw [cellsP_zero]) ?_
     refine At.loop1 (fun (k : Nat) => k ≤ (gE gs (i : Int)).2.length) (fun (k : Nat) => (gE gs (i : Int)).2.length - k) (fun (k : Nat) => [(1, true, .int .i64 at_), (2, true, .int .i64 after), (4, true, V), (5, true, .pointer (some ⟨b1, 0, none⟩)), (11, true, vm), (12, true, Vo), (13, true, .int .i64 i), (14, true, .pointer (some ⟨xb, 0, none⟩)), (15, true, .int .i64 k)]) (fun (k : Nat) => .blk xb (.cells #[.int .i64 (at_ + (i : Int) * (7 + 3 * (cap : Int))), .int .i64 (gE (minsF least gs gs.length) (i : Int)), .int .i64 ((gE gs (i : Int)).2.length : Int), .int .i64 (nw), .int .i64 0, .int .i64 0, .int .i64 0, .int .i64 0, (.slice (some ⟨gx, 0, none⟩) (List.replicate cap (⟨0, 0, 0⟩ : Cel)).length capx)] 237) :: .row (.slice (some ⟨gx, 0, none⟩) (List.replicate cap (⟨0, 0, 0⟩ : Cel)).length capx) 239 3 ((List.replicate cap (⟨0, 0, 0⟩ : Cel)).length) (cellK.all (cellsP cap (gE gs (i : Int)).2 k)) :: rowE chK 237 Vo (cs.map (·.1)) :: rowE zK 3 vm (minsF least gs gs.length) :: .blk b1 (.cells #[.int .i64 th, .int .i64 (cap : Int), .int .i64 wd, .int .i64 ver] 23) :: csg 239 cs) (fun (k : Nat) => []) (0) (Nat.zero_le _) (.cons rfl (.cons rfl (.cons rfl (.cons rfl (.cons rfl (.cons rfl (.cons rfl (.cons rfl (.cons rfl .nil))))))))) (List.Sublist.refl _) rfl (fun k hi => ?_)
     have hM : (List.replicate cap (⟨0, 0, 0⟩ : Cel)).length = cap := List.length_replicate; have hcl : (cellsP cap (gE gs (i : Int)).2 k).length = (List.replicate cap (⟨0, 0, 0⟩ : Cel)).length := (by rw [cellsP_len hi (by omega), List.length_replicate])
     refine U ?_
     refine eA rfl (R.indexRd Tryz.underlying202 sz_40 (.t rfl) (rS M0) (.t rfl) gO) ?_
     refine eA rfl (R.loadRd Tryz.underlying40 rfl (.t rfl) (rS M0) (fun hg => by exact nestGet (by omega))) ?_
     refine eA rfl (R.lenRd Tryz.underlying40 (.t rfl) (by exact nestS hG (by omega))) ?_
     refine eA rfl (R.lss (.t rfl) (.t rfl)) ?_
     refine U ?_
     refine At.condD (.t rfl) (fun c4 => ?_) (fun c4 => ?_)
     ·
      refine U ?_
      refine eA rfl (R.indexRd Tryz.underlying202 sz_40 (.t rfl) (rS M0) (.t rfl) gO) ?_
      refine eA rfl (R.loadRd Tryz.underlying40 rfl (.t rfl) (rS M0) (fun hg => by exact nestGet (by omega))) ?_
      refine U ?_
      refine eA rfl (R.indexRd Tryz.underlying40 sz_43 (.t rfl) (by exact nestS hG (by omega)) (.t rfl) gO) ?_
      refine eA rfl (R.loadRdAgg (us := iK.enc _) Tryz.underlying43 rfl sz_43 (.t rfl) (by exact nestS hG (by omega)) gO (fun hg => by exact Ek.getA (by omega))) ?_
      refine At.alloc rfl rfl rfl ze_43 (fun b2 hb2 => ⟨.all, ?_⟩)
      refine At.stN rfl rfl sz_43 (.t rfl) (.t rfl) rfl rfl rfl (.n U0) ⟨.all, ?_⟩
      refine W ?_
      refine At.drawL ([]) [tt 0, tt 2, tt 3, tt 6, tt 8] [tt 1, tt 4, tt 7, tt 9, ff 5, tt 10, tt 11] [ff 12] (by (exact keepOf (List.nil_sublist _))) (by kernel_rfl) (by kernel_rfl) ?_
      refine sC rfl Cl.none (R.fieldAddr fo_237_8 (.t rfl)) ?_
      refine sC rfl Cl.none (R.move (.t rfl)) ?_
      refine sC rfl Cl.none (R.fieldAddr fo_43_1 (.t rfl)) ?_
      refine sC rfl Cl.none (R.fieldAddr fo_43_0 (.t rfl)) ?_
      refine sC rfl Cl.none (R.fieldAddr fo_43_2 (.t rfl)) ?_
      refine At.stage kI ?_
      refine W ?_
      refine At.callVR rfl rfl rfl (.k rfl .nil) (.nil) (fun hg => c_rState (s := (gE (gE gs (i : Int)).2 (k : Int)).ver)) kI ?_
      refine sJ rfl (R.build bt_239 (.k rfl (.k rfl (.k rfl .nil))) (.cons rfl (.cons rfl (.cons rfl .nil))) rfl) ?_
      refine sJ rfl (R.indexRd Tryz.underlying235 sz_239 (.t rfl) (wKN M2) (.t rfl) gO) ?_
      refine At.stage Cl.none ?_
      refine At.stRow (k := cellK) (y := ⟨max 0 (min (gE (gE gs (i : Int)).2 (k : Int)).ver 16777212) + 3, (gE (gE gs (i : Int)).2 (k : Int)).key, (gE (gE gs (i : Int)).2 (k : Int)).data⟩) rfl rfl sz_239 (.t rfl) (.t rfl) rfl (.n U2) (by omega) (by omega) ⟨Cl.none, ?_⟩
      refine W ?_
      refine At.re (N' := _ :: .blk xb (.cells #[.int .i64 (at_ + (i : Int) * (7 + 3 * (cap : Int))), .int .i64 (gE (minsF least gs gs.length) (i : Int)), .int .i64 ((gE gs (i : Int)).2.length : Int), .int .i64 (nw), .int .i64 0, .int .i64 0, .int .i64 0, .int .i64 0, (.slice (some ⟨gx, 0, none⟩) (List.replicate cap (⟨0, 0, 0⟩ : Cel)).length capx)] 237) :: .row (.slice (some ⟨gx, 0, none⟩) (List.replicate cap (⟨0, 0, 0⟩ : Cel)).length capx) 239 3 ((List.replicate cap (⟨0, 0, 0⟩ : Cel)).length) (cellK.all (cellsP cap (gE gs (i : Int)).2 (k + 1))) :: rowE chK 237 Vo (cs.map (·.1)) :: rowE zK 3 vm (minsF least gs gs.length) :: .blk b1 (.cells #[.int .i64 th, .int .i64 (cap : Int), .int .i64 wd, .int .i64 ver] 23) :: csg 239 cs) (by rw [← cellsP_step (by omega) (by omega), cellP_eq]) ?_
      refine W ?_
      exact At.again1 (k + 1) (by omega) (by omega) (.cons rfl (.cons rfl (.cons rfl (.cons rfl (.cons rfl (.cons rfl (.cons rfl (.cons rfl (.cons rfl .nil))))))))) sl rfl
     ·
      refine W ?_
      obtain rfl : k = (gE gs (i : Int)).2.length := (by omega)
      refine At.re (N' := .blk xb (.cells #[.int .i64 (at_ + (i : Int) * (7 + 3 * (cap : Int))), .int .i64 (gE (minsF least gs gs.length) (i : Int)), .int .i64 ((gE gs (i : Int)).2.length : Int), .int .i64 (nw), .int .i64 0, .int .i64 0, .int .i64 0, .int .i64 0, (.slice (some ⟨gx, 0, none⟩) (List.replicate cap (⟨0, 0, 0⟩ : Cel)).length capx)] 237) :: rowE cellK 239 (.slice (some ⟨gx, 0, none⟩) (List.replicate cap (⟨0, 0, 0⟩ : Cel)).length capx) (cellsP cap (gE gs (i : Int)).2 (gE gs (i : Int)).2.length) :: rowE chK 237 Vo (cs.map (·.1)) :: rowE zK 3 vm (minsF least gs gs.length) :: .blk b1 (.cells #[.int .i64 th, .int .i64 (cap : Int), .int .i64 wd, .int .i64 ver] 23) :: csg 239 cs) (by rw [row_cells (by omega)]) ?_
      refine U ?_
      refine eA rfl (R.loadAgg (vs := [_, _, _, _, _, _, _, _, _]) Tryz.underlying237 rfl sz_237 (.t rfl) (csN M0 ⟨rfl, rfl, rfl, rfl, rfl, rfl, rfl, rfl, rfl, trivial⟩)) ?_
      refine At.lit (k := chK) rfl rfl rfl Tryz.underlying221 et_237 (.k rfl .nil) (.cons (y := ⟨at_ + (i : Int) * (7 + 3 * (cap : Int)), (gE (minsF least gs gs.length) (i : Int)), ((gE gs (i : Int)).2.length : Int), nw, 0, 0, 0, 0, ⟨(.slice (some ⟨gx, 0, none⟩) (List.replicate cap (⟨0, 0, 0⟩ : Cel)).length capx), h1x⟩⟩) rfl .nil) rfl rfl rfl (fun v1 => ⟨.all, ?_⟩)
      refine At.app (k := chK) rfl rfl rfl Tryz.underlying221 et_237 (.t rfl) (.t rfl) (fun _ => by (exact U3)) (wN M0) (by (simp <;> omega)) (fun v2 => ⟨.all, ?_⟩)
      refine W ?_
      refine At.weak (fun _ _ h => h) (N' := rowE cellK 239 (.slice (some ⟨gx, 0, none⟩) (List.replicate cap (⟨0, 0, 0⟩ : Cel)).length capx) (cellsP cap (gE gs (i : Int)).2 (gE gs (i : Int)).2.length) :: ([rowE chK 237 v2 (cs.map (·.1) ++ [⟨at_ + (i : Int) * (7 + 3 * (cap : Int)), (gE (minsF least gs gs.length) (i : Int)), ((gE gs (i : Int)).2.length : Int), nw, 0, 0, 0, 0, ⟨(.slice (some ⟨gx, 0, none⟩) (List.replicate cap (⟨0, 0, 0⟩ : Cel)).length capx), h1x⟩⟩]), rowE zK 3 vm (minsF least gs gs.length), .blk b1 (.cells #[.int .i64 th, .int .i64 (cap : Int), .int .i64 wd, .int .i64 ver] 23)] ++ csg 239 cs)) sl ?_
      refine W ?_
      refine At.csNew (A := [rowE chK 237 v2 (cs.map (·.1) ++ [⟨at_ + (i : Int) * (7 + 3 * (cap : Int)), (gE (minsF least gs gs.length) (i : Int)), ((gE gs (i : Int)).2.length : Int), nw, 0, 0, 0, 0, ⟨(.slice (some ⟨gx, 0, none⟩) (List.replicate cap (⟨0, 0, 0⟩ : Cel)).length capx), h1x⟩⟩]), rowE zK 3 vm (minsF least gs gs.length), .blk b1 (.cells #[.int .i64 th, .int .i64 (cap : Int), .int .i64 wd, .int .i64 ver] 23)]) (x := ⟨at_ + (i : Int) * (7 + 3 * (cap : Int)), (gE (minsF least gs gs.length) (i : Int)), ((gE gs (i : Int)).2.length : Int), nw, 0, 0, 0, 0, ⟨(.slice (some ⟨gx, 0, none⟩) (List.replicate cap (⟨0, 0, 0⟩ : Cel)).length capx), h1x⟩⟩) (ys := cellsP cap (gE gs (i : Int)).2 (gE gs (i : Int)).2.length) ?_
      refine At.re (N' := rowE chK 237 v2 ((cs ++ [((⟨at_ + (i : Int) * (7 + 3 * (cap : Int)), (gE (minsF least gs gs.length) (i : Int)), ((gE gs (i : Int)).2.length : Int), nw, 0, 0, 0, 0, ⟨(.slice (some ⟨gx, 0, none⟩) (List.replicate cap (⟨0, 0, 0⟩ : Cel)).length capx), h1x⟩⟩ : Chk), cellsP cap (gE gs (i : Int)).2 (gE gs (i : Int)).2.length)]).map (·.1)) :: rowE zK 3 vm (minsF least gs gs.length) :: .blk b1 (.cells #[.int .i64 th, .int .i64 (cap : Int), .int .i64 wd, .int .i64 ver] 23) :: csg 239 (cs ++ [((⟨at_ + (i : Int) * (7 + 3 * (cap : Int)), (gE (minsF least gs gs.length) (i : Int)), ((gE gs (i : Int)).2.length : Int), nw, 0, 0, 0, 0, ⟨(.slice (some ⟨gx, 0, none⟩) (List.replicate cap (⟨0, 0, 0⟩ : Cel)).length capx), h1x⟩⟩ : Chk), cellsP cap (gE gs (i : Int)).2 (gE gs (i : Int)).2.length)])) (by rw [List.map_append]; rfl) ?_
      refine W ?_
      exact At.again3 (i + 1) ((cs ++ [((⟨at_ + (i : Int) * (7 + 3 * (cap : Int)), (gE (minsF least gs gs.length) (i : Int)), ((gE gs (i : Int)).2.length : Int), nw, 0, 0, 0, 0, ⟨(.slice (some ⟨gx, 0, none⟩) (List.replicate cap (⟨0, 0, 0⟩ : Cel)).length capx), h1x⟩⟩ : Chk), cellsP cap (gE gs (i : Int)).2 (gE gs (i : Int)).2.length)])) (v2) ⟨by omega, by rw [List.map_append, hi2, range_snoc]; exact congrArg (fun z => _ ++ [z]) (chunk_eq2 hnx (by omega)), by rw [mul_step]; omega, fun j h => by (rcases Nat.lt_or_ge j i with h1 | h1); exact hi5 j h1; (have : j = i := (by omega)); subst this; rw [snd_at]; omega, by simp; omega⟩ (by omega) (.cons rfl (.cons rfl (.cons rfl (.cons rfl (.cons rfl (.cons rfl (.cons rfl .nil))))))) (List.Sublist.refl _) rfl
   ·
    refine At.three ?_ ?_ ?_
    ·
     refine At.callVR rfl rfl rfl (.k rfl .nil) (.nil) (fun hg => c_rSize (by omega)) kI ?_
     refine W ?_
     refine At.three ?_ ?_ ?_
     ·
      refine At.callVR rfl rfl rfl (.k rfl (.kc .nil)) (.nil) (fun hg => c_rNext (s := after)) kI ?_
      refine W ?_
      refine At.two ?_ ?_
      ·
       refine At.makeSl (k := cellK) (z := ⟨0, 0, 0⟩) rfl rfl rfl Tryz.underlying235 et_239 ze_239 rfl (.t rfl) (.t rfl) (by refine ⟨?_, ?_⟩ <;> first | omega | (simp; omega)) (fun v1 => ⟨kz, ?_⟩)
       refine At.rowOne (v := v1) (List.mem_append_right _ M0) (fun h1v => ?_)
       refine sC rfl kz (R.build (cs := [.int .i64 (at_ + (i : Int) * (7 + 3 * (cap : Int))), .int .i64 (gE (minsF least gs gs.length) (i : Int)), .int .i64 ((gE gs (i : Int)).2.length : Int), .int .i64 (max 0 (min after 1073741824) * 2), .int .i64 0, .int .i64 0, .int .i64 0, .int .i64 0, v1]) bt_237 (.k rfl (.k rfl (.k rfl (.k rfl (.k rfl .nil))))) (.cons rfl (.cons rfl (.cons rfl (.cons rfl (.cons (c := [_]) (cells_one h1v) .nil))))) rfl) ?_
       refine At.alloc rfl rfl rfl ze_237 (fun b2 hb2 => ⟨kz, ?_⟩)
       refine At.rowOne (v := v1) (List.mem_append_right _ M1) (fun h1v => ?_)
       refine At.stAll (vs := [.int .i64 (at_ + (i : Int) * (7 + 3 * (cap : Int))), .int .i64 (gE (minsF least gs gs.length) (i : Int)), .int .i64 ((gE gs (i : Int)).2.length : Int), .int .i64 (max 0 (min after 1073741824) * 2), .int .i64 0, .int .i64 0, .int .i64 0, .int .i64 0, v1]) rfl rfl sz_237 (.t rfl) (.t rfl) (hone9 h1v) rfl rfl (.n U0) ⟨kz, ?_⟩
       refine W ?_
       refine At.brDone ?_
       exact hj (v1, b2) _ _ (Sub.look (.cons rfl (.cons rfl (.cons rfl (.cons rfl (.cons rfl (.cons rfl (.cons rfl (.cons rfl .nil))))))))) (List.Sublist.refl _)
      ·
       refine At.alloc rfl rfl rfl ze_237 (fun b2 hb2 => ⟨kz, ?_⟩)
       refine At.makeSl (k := cellK) (z := ⟨0, 0, 0⟩) rfl rfl rfl Tryz.underlying235 et_239 ze_239 rfl (.t rfl) (.t rfl) (by refine ⟨?_, ?_⟩ <;> first | omega | (simp; omega)) (fun v1 => ⟨kz, ?_⟩)
       refine At.rowOne (v := v1) (List.mem_append_right _ M0) (fun h1v => ?_)
       refine sC rfl kz (R.build (cs := [.int .i64 (at_ + (i : Int) * (7 + 3 * (cap : Int))), .int .i64 (gE (minsF least gs gs.length) (i : Int)), .int .i64 ((gE gs (i : Int)).2.length : Int), .int .i64 (max 0 (min after 1073741824) * 2), .int .i64 0, .int .i64 0, .int .i64 0, .int .i64 0, v1]) bt_237 (.k rfl (.k rfl (.k rfl (.k rfl (.k rfl .nil))))) (.cons rfl (.cons rfl (.cons rfl (.cons rfl (.cons (c := [_]) (cells_one h1v) .nil))))) rfl) ?_
       refine At.rowOne (v := v1) (List.mem_append_right _ M0) (fun h1v => ?_)
       refine At.stAll (vs := [.int .i64 (at_ + (i : Int) * (7 + 3 * (cap : Int))), .int .i64 (gE (minsF least gs gs.length) (i : Int)), .int .i64 ((gE gs (i : Int)).2.length : Int), .int .i64 (max 0 (min after 1073741824) * 2), .int .i64 0, .int .i64 0, .int .i64 0, .int .i64 0, v1]) rfl rfl sz_237 (.t rfl) (.t rfl) (hone9 h1v) rfl rfl (.n U1) ⟨kz, ?_⟩
       refine W ?_
       refine At.brDone ?_
       refine At.perm (List.Perm.swap _ _ _) ?_
       exact hj (v1, b2) _ _ (Sub.look (.cons rfl (.cons rfl (.cons rfl (.cons rfl (.cons rfl (.cons rfl (.cons rfl (.cons rfl .nil))))))))) (List.Sublist.refl _)
     ·
      refine At.makeSl (k := cellK) (z := ⟨0, 0, 0⟩) rfl rfl rfl Tryz.underlying235 et_239 ze_239 rfl (.t rfl) (.t rfl) (by refine ⟨?_, ?_⟩ <;> first | omega | (simp; omega)) (fun v1 => ⟨kz, ?_⟩)
      refine W ?_
      refine At.two ?_ ?_
      ·
       refine At.callVR rfl rfl rfl (.k rfl (.kc .nil)) (.nil) (fun hg => c_rNext (s := after)) kz ?_
       refine At.rowOne (v := v1) (List.mem_append_right _ M0) (fun h1v => ?_)
       refine sC rfl kz (R.build (cs := [.int .i64 (at_ + (i : Int) * (7 + 3 * (cap : Int))), .int .i64 (gE (minsF least gs gs.length) (i : Int)), .int .i64 ((gE gs (i : Int)).2.length : Int), .int .i64 (max 0 (min after 1073741824) * 2), .int .i64 0, .int .i64 0, .int .i64 0, .int .i64 0, v1]) bt_237 (.k rfl (.k rfl (.k rfl (.k rfl (.k rfl .nil))))) (.cons rfl (.cons rfl (.cons rfl (.cons rfl (.cons (c := [_]) (cells_one h1v) .nil))))) rfl) ?_
       refine At.alloc rfl rfl rfl ze_237 (fun b2 hb2 => ⟨kz, ?_⟩)
       refine At.rowOne (v := v1) (List.mem_append_right _ M1) (fun h1v => ?_)
       refine At.stAll (vs := [.int .i64 (at_ + (i : Int) * (7 + 3 * (cap : Int))), .int .i64 (gE (minsF least gs gs.length) (i : Int)), .int .i64 ((gE gs (i : Int)).2.length : Int), .int .i64 (max 0 (min after 1073741824) * 2), .int .i64 0, .int .i64 0, .int .i64 0, .int .i64 0, v1]) rfl rfl sz_237 (.t rfl) (.t rfl) (hone9 h1v) rfl rfl (.n U0) ⟨kz, ?_⟩
       refine W ?_
       refine At.brDone ?_
       exact hj (v1, b2) _ _ (Sub.look (.cons rfl (.cons rfl (.cons rfl (.cons rfl (.cons rfl (.cons rfl (.cons rfl (.cons rfl .nil))))))))) (List.Sublist.refl _)
      ·
       refine At.alloc rfl rfl rfl ze_237 (fun b2 hb2 => ⟨kz, ?_⟩)
       refine At.callVR rfl rfl rfl (.k rfl (.kc .nil)) (.nil) (fun hg => c_rNext (s := after)) kz ?_
       refine At.rowOne (v := v1) (List.mem_append_right _ M1) (fun h1v => ?_)
       refine sC rfl kz (R.build (cs := [.int .i64 (at_ + (i : Int) * (7 + 3 * (cap : Int))), .int .i64 (gE (minsF least gs gs.length) (i : Int)), .int .i64 ((gE gs (i : Int)).2.length : Int), .int .i64 (max 0 (min after 1073741824) * 2), .int .i64 0, .int .i64 0, .int .i64 0, .int .i64 0, v1]) bt_237 (.k rfl (.k rfl (.k rfl (.k rfl (.k rfl .nil))))) (.cons rfl (.cons rfl (.cons rfl (.cons rfl (.cons (c := [_]) (cells_one h1v) .nil))))) rfl) ?_
       refine At.rowOne (v := v1) (List.mem_append_right _ M1) (fun h1v => ?_)
       refine At.stAll (vs := [.int .i64 (at_ + (i : Int) * (7 + 3 * (cap : Int))), .int .i64 (gE (minsF least gs gs.length) (i : Int)), .int .i64 ((gE gs (i : Int)).2.length : Int), .int .i64 (max 0 (min after 1073741824) * 2), .int .i64 0, .int .i64 0, .int .i64 0, .int .i64 0, v1]) rfl rfl sz_237 (.t rfl) (.t rfl) (hone9 h1v) rfl rfl (.n U0) ⟨kz, ?_⟩
       refine W ?_
       refine At.brDone ?_
       exact hj (v1, b2) _ _ (Sub.look (.cons rfl (.cons rfl (.cons rfl (.cons rfl (.cons rfl (.cons rfl (.cons rfl (.cons rfl .nil))))))))) (List.Sublist.refl _)
     ·
      refine At.alloc rfl rfl rfl ze_237 (fun b2 hb2 => ⟨kz, ?_⟩)
      refine W ?_
      refine At.two ?_ ?_
      ·
       refine At.callVR rfl rfl rfl (.k rfl (.kc .nil)) (.nil) (fun hg => c_rNext (s := after)) kz ?_
       refine At.makeSl (k := cellK) (z := ⟨0, 0, 0⟩) rfl rfl rfl Tryz.underlying235 et_239 ze_239 rfl (.t rfl) (.t rfl) (by refine ⟨?_, ?_⟩ <;> first | omega | (simp; omega)) (fun v1 => ⟨kz, ?_⟩)
       refine At.rowOne (v := v1) (List.mem_append_right _ M0) (fun h1v => ?_)
       refine sC rfl kz (R.build (cs := [.int .i64 (at_ + (i : Int) * (7 + 3 * (cap : Int))), .int .i64 (gE (minsF least gs gs.length) (i : Int)), .int .i64 ((gE gs (i : Int)).2.length : Int), .int .i64 (max 0 (min after 1073741824) * 2), .int .i64 0, .int .i64 0, .int .i64 0, .int .i64 0, v1]) bt_237 (.k rfl (.k rfl (.k rfl (.k rfl (.k rfl .nil))))) (.cons rfl (.cons rfl (.cons rfl (.cons rfl (.cons (c := [_]) (cells_one h1v) .nil))))) rfl) ?_
       refine At.rowOne (v := v1) (List.mem_append_right _ M0) (fun h1v => ?_)
       refine At.stAll (vs := [.int .i64 (at_ + (i : Int) * (7 + 3 * (cap : Int))), .int .i64 (gE (minsF least gs gs.length) (i : Int)), .int .i64 ((gE gs (i : Int)).2.length : Int), .int .i64 (max 0 (min after 1073741824) * 2), .int .i64 0, .int .i64 0, .int .i64 0, .int .i64 0, v1]) rfl rfl sz_237 (.t rfl) (.t rfl) (hone9 h1v) rfl rfl (.n U1) ⟨kz, ?_⟩
       refine W ?_
       refine At.brDone ?_
       refine At.perm (List.Perm.swap _ _ _) ?_
       exact hj (v1, b2) _ _ (Sub.look (.cons rfl (.cons rfl (.cons rfl (.cons rfl (.cons rfl (.cons rfl (.cons rfl (.cons rfl .nil))))))))) (List.Sublist.refl _)
      ·
       refine At.makeSl (k := cellK) (z := ⟨0, 0, 0⟩) rfl rfl rfl Tryz.underlying235 et_239 ze_239 rfl (.t rfl) (.t rfl) (by refine ⟨?_, ?_⟩ <;> first | omega | (simp; omega)) (fun v1 => ⟨kz, ?_⟩)
       refine At.callVR rfl rfl rfl (.k rfl (.kc .nil)) (.nil) (fun hg => c_rNext (s := after)) kz ?_
       refine At.rowOne (v := v1) (List.mem_append_right _ M0) (fun h1v => ?_)
       refine sC rfl kz (R.build (cs := [.int .i64 (at_ + (i : Int) * (7 + 3 * (cap : Int))), .int .i64 (gE (minsF least gs gs.length) (i : Int)), .int .i64 ((gE gs (i : Int)).2.length : Int), .int .i64 (max 0 (min after 1073741824) * 2), .int .i64 0, .int .i64 0, .int .i64 0, .int .i64 0, v1]) bt_237 (.k rfl (.k rfl (.k rfl (.k rfl (.k rfl .nil))))) (.cons rfl (.cons rfl (.cons rfl (.cons rfl (.cons (c := [_]) (cells_one h1v) .nil))))) rfl) ?_
       refine At.rowOne (v := v1) (List.mem_append_right _ M0) (fun h1v => ?_)
       refine At.stAll (vs := [.int .i64 (at_ + (i : Int) * (7 + 3 * (cap : Int))), .int .i64 (gE (minsF least gs gs.length) (i : Int)), .int .i64 ((gE gs (i : Int)).2.length : Int), .int .i64 (max 0 (min after 1073741824) * 2), .int .i64 0, .int .i64 0, .int .i64 0, .int .i64 0, v1]) rfl rfl sz_237 (.t rfl) (.t rfl) (hone9 h1v) rfl rfl (.n U1) ⟨kz, ?_⟩
       refine W ?_
       refine At.brDone ?_
       refine At.perm (List.Perm.swap _ _ _) ?_
       exact hj (v1, b2) _ _ (Sub.look (.cons rfl (.cons rfl (.cons rfl (.cons rfl (.cons rfl (.cons rfl (.cons rfl (.cons rfl .nil))))))))) (List.Sublist.refl _)
    ·
     refine At.makeSl (k := cellK) (z := ⟨0, 0, 0⟩) rfl rfl rfl Tryz.underlying235 et_239 ze_239 rfl (.t rfl) (.t rfl) (by refine ⟨?_, ?_⟩ <;> first | omega | (simp; omega)) (fun v1 => ⟨kz, ?_⟩)
     refine W ?_
     refine At.two ?_ ?_
     ·
      refine At.callVR rfl rfl rfl (.k rfl .nil) (.nil) (fun hg => c_rSize (by omega)) kz ?_
      refine W ?_
      refine At.two ?_ ?_
      ·
       refine At.callVR rfl rfl rfl (.k rfl (.kc .nil)) (.nil) (fun hg => c_rNext (s := after)) kz ?_
       refine At.rowOne (v := v1) (List.mem_append_right _ M0) (fun h1v => ?_)
       refine sC rfl kz (R.build (cs := [.int .i64 (at_ + (i : Int) * (7 + 3 * (cap : Int))), .int .i64 (gE (minsF least gs gs.length) (i : Int)), .int .i64 ((gE gs (i : Int)).2.length : Int), .int .i64 (max 0 (min after 1073741824) * 2), .int .i64 0, .int .i64 0, .int .i64 0, .int .i64 0, v1]) bt_237 (.k rfl (.k rfl (.k rfl (.k rfl (.k rfl .nil))))) (.cons rfl (.cons rfl (.cons rfl (.cons rfl (.cons (c := [_]) (cells_one h1v) .nil))))) rfl) ?_
       refine At.alloc rfl rfl rfl ze_237 (fun b2 hb2 => ⟨kz, ?_⟩)
       refine At.rowOne (v := v1) (List.mem_append_right _ M1) (fun h1v => ?_)
       refine At.stAll (vs := [.int .i64 (at_ + (i : Int) * (7 + 3 * (cap : Int))), .int .i64 (gE (minsF least gs gs.length) (i : Int)), .int .i64 ((gE gs (i : Int)).2.length : Int), .int .i64 (max 0 (min after 1073741824) * 2), .int .i64 0, .int .i64 0, .int .i64 0, .int .i64 0, v1]) rfl rfl sz_237 (.t rfl) (.t rfl) (hone9 h1v) rfl rfl (.n U0) ⟨kz, ?_⟩
       refine W ?_
       refine At.brDone ?_
       exact hj (v1, b2) _ _ (Sub.look (.cons rfl (.cons rfl (.cons rfl (.cons rfl (.cons rfl (.cons rfl (.cons rfl (.cons rfl .nil))))))))) (List.Sublist.refl _)
      ·
       refine At.alloc rfl rfl rfl ze_237 (fun b2 hb2 => ⟨kz, ?_⟩)
       refine At.callVR rfl rfl rfl (.k rfl (.kc .nil)) (.nil) (fun hg => c_rNext (s := after)) kz ?_
       refine At.rowOne (v := v1) (List.mem_append_right _ M1) (fun h1v => ?_)
       refine sC rfl kz (R.build (cs := [.int .i64 (at_ + (i : Int) * (7 + 3 * (cap : Int))), .int .i64 (gE (minsF least gs gs.length) (i : Int)), .int .i64 ((gE gs (i : Int)).2.length : Int), .int .i64 (max 0 (min after 1073741824) * 2), .int .i64 0, .int .i64 0, .int .i64 0, .int .i64 0, v1]) bt_237 (.k rfl (.k rfl (.k rfl (.k rfl (.k rfl .nil))))) (.cons rfl (.cons rfl (.cons rfl (.cons rfl (.cons (c := [_]) (cells_one h1v) .nil))))) rfl) ?_
       refine At.rowOne (v := v1) (List.mem_append_right _ M1) (fun h1v => ?_)
       refine At.stAll (vs := [.int .i64 (at_ + (i : Int) * (7 + 3 * (cap : Int))), .int .i64 (gE (minsF least gs gs.length) (i : Int)), .int .i64 ((gE gs (i : Int)).2.length : Int), .int .i64 (max 0 (min after 1073741824) * 2), .int .i64 0, .int .i64 0, .int .i64 0, .int .i64 0, v1]) rfl rfl sz_237 (.t rfl) (.t rfl) (hone9 h1v) rfl rfl (.n U0) ⟨kz, ?_⟩
       refine W ?_
       refine At.brDone ?_
       exact hj (v1, b2) _ _ (Sub.look (.cons rfl (.cons rfl (.cons rfl (.cons rfl (.cons rfl (.cons rfl (.cons rfl (.cons rfl .nil))))))))) (List.Sublist.refl _)
     ·
      refine At.alloc rfl rfl rfl ze_237 (fun b2 hb2 => ⟨kz, ?_⟩)
      refine At.callVR rfl rfl rfl (.k rfl .nil) (.nil) (fun hg => c_rSize (by omega)) kz ?_
      refine W ?_
      refine At.callVR rfl rfl rfl (.k rfl (.kc .nil)) (.nil) (fun hg => c_rNext (s := after)) kz ?_
      refine At.rowOne (v := v1) (List.mem_append_right _ M1) (fun h1v => ?_)
      refine sC rfl kz (R.build (cs := [.int .i64 (at_ + (i : Int) * (7 + 3 * (cap : Int))), .int .i64 (gE (minsF least gs gs.length) (i : Int)), .int .i64 ((gE gs (i : Int)).2.length : Int), .int .i64 (max 0 (min after 1073741824) * 2), .int .i64 0, .int .i64 0, .int .i64 0, .int .i64 0, v1]) bt_237 (.k rfl (.k rfl (.k rfl (.k rfl (.k rfl .nil))))) (.cons rfl (.cons rfl (.cons rfl (.cons rfl (.cons (c := [_]) (cells_one h1v) .nil))))) rfl) ?_
      refine At.rowOne (v := v1) (List.mem_append_right _ M1) (fun h1v => ?_)
      refine At.stAll (vs := [.int .i64 (at_ + (i : Int) * (7 + 3 * (cap : Int))), .int .i64 (gE (minsF least gs gs.length) (i : Int)), .int .i64 ((gE gs (i : Int)).2.length : Int), .int .i64 (max 0 (min after 1073741824) * 2), .int .i64 0, .int .i64 0, .int .i64 0, .int .i64 0, v1]) rfl rfl sz_237 (.t rfl) (.t rfl) (hone9 h1v) rfl rfl (.n U0) ⟨kz, ?_⟩
      refine W ?_
      refine At.brDone ?_
      exact hj (v1, b2) _ _ (Sub.look (.cons rfl (.cons rfl (.cons rfl (.cons rfl (.cons rfl (.cons rfl (.cons rfl (.cons rfl .nil))))))))) (List.Sublist.refl _)
    ·
     refine At.alloc rfl rfl rfl ze_237 (fun b2 hb2 => ⟨kz, ?_⟩)
     refine W ?_
     refine At.two ?_ ?_
     ·
      refine At.callVR rfl rfl rfl (.k rfl .nil) (.nil) (fun hg => c_rSize (by omega)) kz ?_
      refine W ?_
      refine At.two ?_ ?_
      ·
       refine At.callVR rfl rfl rfl (.k rfl (.kc .nil)) (.nil) (fun hg => c_rNext (s := after)) kz ?_
       refine At.makeSl (k := cellK) (z := ⟨0, 0, 0⟩) rfl rfl rfl Tryz.underlying235 et_239 ze_239 rfl (.t rfl) (.t rfl) (by refine ⟨?_, ?_⟩ <;> first | omega | (simp; omega)) (fun v1 => ⟨kz, ?_⟩)
       refine At.rowOne (v := v1) (List.mem_append_right _ M0) (fun h1v => ?_)
       refine sC rfl kz (R.build (cs := [.int .i64 (at_ + (i : Int) * (7 + 3 * (cap : Int))), .int .i64 (gE (minsF least gs gs.length) (i : Int)), .int .i64 ((gE gs (i : Int)).2.length : Int), .int .i64 (max 0 (min after 1073741824) * 2), .int .i64 0, .int .i64 0, .int .i64 0, .int .i64 0, v1]) bt_237 (.k rfl (.k rfl (.k rfl (.k rfl (.k rfl .nil))))) (.cons rfl (.cons rfl (.cons rfl (.cons rfl (.cons (c := [_]) (cells_one h1v) .nil))))) rfl) ?_
       refine At.rowOne (v := v1) (List.mem_append_right _ M0) (fun h1v => ?_)
       refine At.stAll (vs := [.int .i64 (at_ + (i : Int) * (7 + 3 * (cap : Int))), .int .i64 (gE (minsF least gs gs.length) (i : Int)), .int .i64 ((gE gs (i : Int)).2.length : Int), .int .i64 (max 0 (min after 1073741824) * 2), .int .i64 0, .int .i64 0, .int .i64 0, .int .i64 0, v1]) rfl rfl sz_237 (.t rfl) (.t rfl) (hone9 h1v) rfl rfl (.n U1) ⟨kz, ?_⟩
       refine W ?_
       refine At.brDone ?_
       refine At.perm (List.Perm.swap _ _ _) ?_
       exact hj (v1, b2) _ _ (Sub.look (.cons rfl (.cons rfl (.cons rfl (.cons rfl (.cons rfl (.cons rfl (.cons rfl (.cons rfl .nil))))))))) (List.Sublist.refl _)
      ·
       refine At.makeSl (k := cellK) (z := ⟨0, 0, 0⟩) rfl rfl rfl Tryz.underlying235 et_239 ze_239 rfl (.t rfl) (.t rfl) (by refine ⟨?_, ?_⟩ <;> first | omega | (simp; omega)) (fun v1 => ⟨kz, ?_⟩)
       refine At.callVR rfl rfl rfl (.k rfl (.kc .nil)) (.nil) (fun hg => c_rNext (s := after)) kz ?_
       refine At.rowOne (v := v1) (List.mem_append_right _ M0) (fun h1v => ?_)
       refine sC rfl kz (R.build (cs := [.int .i64 (at_ + (i : Int) * (7 + 3 * (cap : Int))), .int .i64 (gE (minsF least gs gs.length) (i : Int)), .int .i64 ((gE gs (i : Int)).2.length : Int), .int .i64 (max 0 (min after 1073741824) * 2), .int .i64 0, .int .i64 0, .int .i64 0, .int .i64 0, v1]) bt_237 (.k rfl (.k rfl (.k rfl (.k rfl (.k rfl .nil))))) (.cons rfl (.cons rfl (.cons rfl (.cons rfl (.cons (c := [_]) (cells_one h1v) .nil))))) rfl) ?_
       refine At.rowOne (v := v1) (List.mem_append_right _ M0) (fun h1v => ?_)
       refine At.stAll (vs := [.int .i64 (at_ + (i : Int) * (7 + 3 * (cap : Int))), .int .i64 (gE (minsF least gs gs.length) (i : Int)), .int .i64 ((gE gs (i : Int)).2.length : Int), .int .i64 (max 0 (min after 1073741824) * 2), .int .i64 0, .int .i64 0, .int .i64 0, .int .i64 0, v1]) rfl rfl sz_237 (.t rfl) (.t rfl) (hone9 h1v) rfl rfl (.n U1) ⟨kz, ?_⟩
       refine W ?_
       refine At.brDone ?_
       refine At.perm (List.Perm.swap _ _ _) ?_
       exact hj (v1, b2) _ _ (Sub.look (.cons rfl (.cons rfl (.cons rfl (.cons rfl (.cons rfl (.cons rfl (.cons rfl (.cons rfl .nil))))))))) (List.Sublist.refl _)
     ·
      refine At.makeSl (k := cellK) (z := ⟨0, 0, 0⟩) rfl rfl rfl Tryz.underlying235 et_239 ze_239 rfl (.t rfl) (.t rfl) (by refine ⟨?_, ?_⟩ <;> first | omega | (simp; omega)) (fun v1 => ⟨kz, ?_⟩)
      refine At.callVR rfl rfl rfl (.k rfl .nil) (.nil) (fun hg => c_rSize (by omega)) kz ?_
      refine W ?_
      refine At.callVR rfl rfl rfl (.k rfl (.kc .nil)) (.nil) (fun hg => c_rNext (s := after)) kz ?_
      refine At.rowOne (v := v1) (List.mem_append_right _ M0) (fun h1v => ?_)
      refine sC rfl kz (R.build (cs := [.int .i64 (at_ + (i : Int) * (7 + 3 * (cap : Int))), .int .i64 (gE (minsF least gs gs.length) (i : Int)), .int .i64 ((gE gs (i : Int)).2.length : Int), .int .i64 (max 0 (min after 1073741824) * 2), .int .i64 0, .int .i64 0, .int .i64 0, .int .i64 0, v1]) bt_237 (.k rfl (.k rfl (.k rfl (.k rfl (.k rfl .nil))))) (.cons rfl (.cons rfl (.cons rfl (.cons rfl (.cons (c := [_]) (cells_one h1v) .nil))))) rfl) ?_
      refine At.rowOne (v := v1) (List.mem_append_right _ M0) (fun h1v => ?_)
      refine At.stAll (vs := [.int .i64 (at_ + (i : Int) * (7 + 3 * (cap : Int))), .int .i64 (gE (minsF least gs gs.length) (i : Int)), .int .i64 ((gE gs (i : Int)).2.length : Int), .int .i64 (max 0 (min after 1073741824) * 2), .int .i64 0, .int .i64 0, .int .i64 0, .int .i64 0, v1]) rfl rfl sz_237 (.t rfl) (.t rfl) (hone9 h1v) rfl rfl (.n U1) ⟨kz, ?_⟩
      refine W ?_
      refine At.brDone ?_
      refine At.perm (List.Perm.swap _ _ _) ?_
      exact hj (v1, b2) _ _ (Sub.look (.cons rfl (.cons rfl (.cons rfl (.cons rfl (.cons rfl (.cons rfl (.cons rfl (.cons rfl .nil))))))))) (List.Sublist.refl _)
 ·
  refine W ?_
  exact At.final (N' := rowE chK 237 Vo (cs.map (·.1)) :: csg 239 cs) rfl (.t rfl) sl (⟨cs, by rw [hi2]; exact chunks_all (by rw [List.length_map]; omega) hi5, rfl, rfl⟩)
end Go.Proofs.YtbolanigdkgbdaaGreat
namespace Go.Proofs.YtbolanigdkgbdaaGreat
open Go Go.RowKit
set_option maxRecDepth 10000
set_option linter.unusedVariables false
theorem et_40 : elemTab Tryz.prog 40 = some (1, 24) := by kernel_rfl
def IsG (Eo E : TypeId) (G : List (List Itm)) : Value → Hp → Hp → Prop := fun v N H => ∃ gs : List (SV × List Itm), gs.map (·.2) = G ∧ N = rowE sK Eo v (gs.map (·.1)) :: seg iK E gs ∧ H = []
theorem c_rSplit {u : Value} {l : List Itm} {cells : Int} (hL : l.length ≤ 1000) : Fn Tryz.prog 181 [u, .int .i64 cells] [rdE iK u l] [] (IsG 40 43 (splitR (max 2 (min cells 16) / 2) [[]] l)) := by
 refine Fn.enter Tryz.func181 (by kernel_rfl) rfl (n := 81) rfl rfl (fun w => ?_)
 refine At.len (v := u) (rS M0) (fun hl1 => ?_)
 refine Z ?_
 refine eA rfl (R.quoI (.t rfl) .c gO) ?_
 refine W ?_
 refine At.lit (k := sK) rfl rfl rfl Tryz.underlying202 et_40 (.kc .nil) (.cons (y := ⟨.slice none 0 0, rfl⟩) rfl .nil) rfl rfl rfl (fun v1 => ⟨.all, ?_⟩)
 refine W ?_
 refine At.nilRow iK 43 ?_
 refine At.perm (List.Perm.swap _ _ _) ?_
 refine At.loop3 (fun (i : Nat) (gs : List (SV × List Itm)) (V : Value) => i ≤ l.length ∧ splitR (max 2 (min cells 16) / 2) (gs.map (·.2)) (l.drop i) = splitR (max 2 (min cells 16) / 2) [[]] l ∧ 0 < gs.length ∧ gs.length ≤ i + 1 ∧ (∀ x ∈ gs, x.2.length ≤ i)) (fun (i : Nat) (gs : List (SV × List Itm)) (V : Value) => l.length - i) (fun (i : Nat) (gs : List (SV × List Itm)) (V : Value) => [(0, true, u), (5, true, .int .i64 (max 2 (min cells 16) / 2)), (6, true, V), (7, true, .int .i64 i)]) (fun (i : Nat) (gs : List (SV × List Itm)) (V : Value) => rowE sK 40 V (gs.map (·.1)) :: seg iK 43 gs) (fun (i : Nat) (gs : List (SV × List Itm)) (V : Value) => []) (0) ([((⟨.slice none 0 0, rfl⟩ : SV), ([] : List Itm))]) (v1) ⟨Nat.zero_le _, rfl, by simp, by simp, by simp⟩ (.cons rfl (.cons rfl (.cons rfl (.cons rfl .nil)))) (List.Sublist.refl _) rfl (fun i gs V hi => ?_)
 obtain ⟨hi1, hi2, hi3, hi4, hi5⟩ := hi; have hml : (gs.map (·.1)).length = gs.length := List.length_map _
 refine Z ?_
 refine At.condD (.t rfl) (fun c1 => ?_) (fun c1 => ?_)
 ·
  refine W ?_
  refine At.loop1 (fun (k : Nat) => i ≤ k ∧ k ≤ l.length ∧ ∀ j : Nat, i ≤ j → j < k → (gE l (j : Int)).key = (gE l (i : Int)).key) (fun (k : Nat) => l.length - k) (fun (k : Nat) => [(0, true, u), (5, true, .int .i64 (max 2 (min cells 16) / 2)), (6, true, V), (7, true, .int .i64 i), (8, true, .int .i64 k)]) (fun (k : Nat) => rowE sK 40 V (gs.map (·.1)) :: seg iK 43 gs) (fun (k : Nat) => []) (i) ⟨Nat.le_refl _, by omega, fun j h h2 => by omega⟩ (.cons rfl (.cons rfl (.cons rfl (.cons rfl (.cons rfl .nil))))) (List.Sublist.refl _) rfl (fun k hi => ?_)
  obtain ⟨hk0, hk1, hk2⟩ := hi
  refine W ?_
  refine At.drawK [tt 0, tt 1, tt 2, tt 3, tt 4, tt 5, tt 6, tt 7, tt 8, tt 9, tt 10, tt 11, tt 12, tt 13, tt 14, tt 15, tt 16] (by kernel_rfl) (by kernel_rfl) ?_
  refine U ?_
  refine sJ rfl (R.lenRd Tryz.underlying40 (.t rfl) (rK M0)) ?_
  refine sJ rfl (R.lss (.t rfl) (.t rfl)) ?_
  refine U ?_
  refine sJ rfl (R.indexRd Tryz.underlying40 sz_43 (.s rfl) (rK M0) (.s rfl) (fun hg => (by ((simp [-List.length_eq_zero_iff] at hg; omega))))) ?_
  refine sJ rfl (R.fieldRd fo_43_0 (.s rfl) (rK M0) gO) ?_
  refine sJ rfl (R.loadRd Tryz.underlying3 rfl (.s rfl) (rK M0) (fun hg => by exact Ek.getN rfl (by ((simp [-List.length_eq_zero_iff] at hg; omega))))) ?_
  refine U ?_
  refine sJ rfl (R.indexRd Tryz.underlying40 sz_43 (.s rfl) (rK M0) (.s rfl) gO) ?_
  refine sJ rfl (R.fieldRd fo_43_0 (.s rfl) (rK M0) gO) ?_
  refine sJ rfl (R.loadRd Tryz.underlying3 rfl (.s rfl) (rK M0) (fun hg => by exact Ek.getN rfl (by omega))) ?_
  refine sJ rfl (R.eql (.s rfl) (.s rfl)) ?_
  refine sJ rfl (R.pickAnd (.t rfl) rfl (by (intro hg h; rw [h]; rfl))) ?_
  refine U ?_
  refine At.cond (.t rfl) (fun c2 => ?_) (fun c2 => ?_)
  ·
   simp only [Bool.and_eq_true, decide_eq_true_eq] at c2
   refine W ?_
   exact At.again1 (k + 1) ⟨by omega, by have := c2.1; omega, fun j h1 h2 => by rcases Nat.lt_or_ge j k with h | h; exact hk2 j h1 h; have : j = k := (by omega); subst this; exact c2.2⟩ (by have := c2.1; omega) (.cons rfl (.cons rfl (.cons rfl (.cons rfl (.cons rfl .nil))))) (List.Sublist.refl _) rfl
  ·
   have hc2 : ¬ (k < l.length ∧ (gE l (k : Int)).key = (gE l (i : Int)).key) := (fun h => by simp [h.1, h.2] at c2); have hik : i < k := (by rcases Nat.lt_or_ge i k with h | h; exact h; have : k = i := (by omega); subst this; exact absurd ⟨by omega, rfl⟩ hc2); have hkk : k < l.length → (gE l (k : Int)).key ≠ (gE l (i : Int)).key := (fun h e => hc2 ⟨h, e⟩); have hsz := hi5 (gE gs ((gs.length - 1 : Nat) : Int)) (gE_mem' (by omega))
   refine U ?_
   refine eA rfl (R.lenRd Tryz.underlying202 (.t rfl) (wS M1)) ?_
   refine eA rfl (R.as (R.subI (.t rfl) .c gO) (fun _ => congrArg (Value.int .i64) (by omega : ((gs.map (·.1)).length : Int) - 1 = ((gs.length - 1 : Nat) : Int)))) ?_
   refine U ?_
   refine eA rfl (R.indexRd Tryz.underlying202 sz_40 (.t rfl) (wS M1) (.t rfl) gO) ?_
   refine eA rfl (R.loadRd Tryz.underlying40 rfl (.t rfl) (wS M1) (fun hg => by exact segGet (by omega))) ?_
   refine eA rfl (R.lenRd Tryz.underlying40 (.t rfl) (by exact segS (gs := gs) sl (by omega))) ?_
   refine eA rfl (R.gtr (.t rfl) .c) ?_
   refine U ?_
   refine eA rfl (R.indexRd Tryz.underlying202 sz_40 (.s rfl) (wS M1) (.s rfl) gO) ?_
   refine eA rfl (R.loadRd Tryz.underlying40 rfl (.s rfl) (wS M1) (fun hg => by exact segGet (by omega))) ?_
   refine eA rfl (R.lenRd Tryz.underlying40 (.s rfl) (by exact segS (gs := gs) sl (by omega))) ?_
   refine U ?_
   refine eA rfl (R.addI (.s rfl) (.s rfl) gO) ?_
   refine U ?_
   refine eA rfl (R.subI (.s rfl) (.s rfl) gO) ?_
   refine U ?_
   refine eA rfl (R.gtr (.s rfl) (.s rfl)) ?_
   refine eA rfl (R.pickAnd (.t rfl) rfl (by (intro hg h; rw [h]; rfl))) ?_
   refine U ?_
   refine At.cut3 (fun (gs2 : List (SV × List Itm)) (V2 : Value) (m : Nat) => gs2.map (·.2) = openG (max 2 (min cells 16) / 2) (gs.map (·.2)) (k - i) ∧ gs2.length = m + 1 ∧ gs2.length ≤ gs.length + 1 ∧ (∀ x ∈ gs2, x.2.length ≤ i)) (fun (gs2 : List (SV × List Itm)) (V2 : Value) (m : Nat) => [(0, true, u), (5, true, .int .i64 (max 2 (min cells 16) / 2)), (6, true, V2), (7, true, .int .i64 i), (8, true, .int .i64 k), (9, true, .int .i64 m)]) (fun (gs2 : List (SV × List Itm)) (V2 : Value) (m : Nat) => rowE sK 40 V2 (gs2.map (·.1)) :: seg iK 43 gs2) (fun (gs2 : List (SV × List Itm)) (V2 : Value) (m : Nat) => []) ?_ (fun gs2 V2 m hi => ?_)
   ·
    refine At.cond (.t rfl) (fun c3 => ?_) (fun c3 => ?_)
    ·
     refine W ?_
     refine At.lit (k := sK) rfl rfl rfl Tryz.underlying202 et_40 (.kc .nil) (.cons (y := ⟨.slice none 0 0, rfl⟩) rfl .nil) rfl rfl rfl (fun v2 => ⟨.all, ?_⟩)
     refine At.app (k := sK) rfl rfl rfl Tryz.underlying202 et_40 (.t rfl) (.t rfl) (fun _ => by (exact U1)) (wS M1) (by (simp <;> omega)) (fun v3 => ⟨.all, ?_⟩)
     refine W ?_
     refine At.nilRow iK 43 ?_
     refine At.weak (fun _ _ h => h) (N' := rowE iK 43 (.slice none 0 0) [] :: ([rowE sK 40 v3 (gs.map (·.1) ++ [⟨.slice none 0 0, rfl⟩])] ++ seg iK 43 gs)) sl ?_
     refine At.segNew (A := [rowE sK 40 v3 (gs.map (·.1) ++ [⟨.slice none 0 0, rfl⟩])]) (α := Itm) (v := ⟨.slice none 0 0, rfl⟩) (xs := []) ?_
     refine At.re (N' := rowE sK 40 v3 ((gs ++ [((⟨.slice none 0 0, rfl⟩ : SV), ([] : List Itm))]).map (·.1)) :: seg iK 43 (gs ++ [((⟨.slice none 0 0, rfl⟩ : SV), ([] : List Itm))])) (by simp [List.map_append]) ?_
     refine W ?_
     exact At.mid3 (gs ++ [((⟨.slice none 0 0, rfl⟩ : SV), ([] : List Itm))]) (v3) (gs.length) ⟨openG_yes (m := gs.length - 1) (by omega) (by simp only [Bool.and_eq_true, decide_eq_true_eq] at c3; omega), by simp, by simp, fun x hx => by rcases List.mem_append.1 hx with h | h; exact hi5 x h; simp at h; subst h; exact Nat.zero_le _⟩ (.cons rfl (.cons rfl (.cons rfl (.cons rfl (.cons rfl (.cons (congrArg (fun z => some (true, Value.int .i64 z)) (by omega)) .nil)))))) (List.Sublist.refl _) rfl
    ·
     refine W ?_
     exact At.mid3 (gs) (V) (gs.length - 1) ⟨openG_no (m := gs.length - 1) (by omega) (fun h => by simp at c3; omega), by omega, by omega, hi5⟩ (.cons rfl (.cons rfl (.cons rfl (.cons rfl (.cons rfl (.cons rfl .nil)))))) (List.Sublist.refl _) rfl
   ·
    obtain ⟨hm1, hm2, hm3, hm4⟩ := hi; have hml2 : (gs2.map (·.1)).length = gs2.length := List.length_map _; have hsz2 := hm4 (gE gs2 (m : Int)) (gE_mem' (by omega))
    refine W ?_
    refine At.rowForm (v := V2) (M1) (by omega) (fun g cap hv => ?_)
    subst hv
    refine At.drawL ([rdE iK u l]) [tt 0, tt 1, tt 2, tt 3, tt 4, tt 7, tt 8, tt 9, tt 10] [tt 5, ff 6, ff 11, tt 12] [ff 13] (keepOf sl) (by kernel_rfl) (by kernel_rfl) ?_
    refine W ?_
    refine sC rfl kz (R.indexSlE Tryz.underlying202 sz_40 (.t rfl) (.t rfl) gO) ?_
    refine W ?_
    refine sC rfl kz (R.sliceRd Tryz.underlying40 sz_43 (.t rfl) (rK M0) (.t rfl) (.t rfl) gO) ?_
    refine At.stage kI ?_
    refine sJ rfl (R.loadRd Tryz.underlying40 rfl (.t rfl) (wK M1) (fun hg => by exact segGet (by omega))) ?_
    (refine At.nilRow iK 43 ?_; refine At.app (k := iK) rfl rfl rfl Tryz.underlying40 et_43 .c (.t rfl) (fun _ => by (exact U0)) (by exact segS (gs := gs2) sl (by omega)) (by (simp <;> omega)) (fun v4 => ⟨kz, ?_⟩))
    refine At.app (k := iK) rfl rfl rfl Tryz.underlying40 et_43 (.t rfl) (.t rfl) (fun _ => by (exact U0)) (RdIn.cutE (k := iK) (rS M0) _ _ (by omega) (by omega)) (by (simp <;> omega)) (fun v5 => ⟨kz, ?_⟩)
    refine sC rfl kz (R.indexRd Tryz.underlying202 sz_40 (.t rfl) (wK M1) (.t rfl) gO) ?_
    refine At.stage kz ?_
    refine At.rowOne (v := v5) (M1) (fun h1v => ?_)
    refine At.stSeg (gs := gs2) (xs := (gE gs2 (m : Int)).2 ++ (l.drop i).take (k - i)) rfl rfl sz_40 (.t rfl) (.t rfl) h1v (by omega) U1 ⟨kz, ?_⟩
    refine W ?_
    refine At.segIn (A := [rowE sK 40 (.slice (some ⟨g, 0, none⟩) (gs2.map (·.1)).length cap) ((gs2.set ((m : Int)).toNat (⟨v5, h1v⟩, (gE gs2 (m : Int)).2 ++ (l.drop i).take (k - i))).map (·.1))]) (i := ((m : Int)).toNat) (v := ⟨v5, h1v⟩) (xs := (gE gs2 (m : Int)).2 ++ (l.drop i).take (k - i)) (by omega) ?_
    refine W ?_
    exact At.again3 (k) (gs2.set ((m : Int)).toNat (⟨v5, h1v⟩, (gE gs2 (m : Int)).2 ++ (l.drop i).take (k - i))) (.slice (some ⟨g, 0, none⟩) (gs2.map (·.1)).length cap) ⟨by omega, by rw [putG_eq hm2 (by rw [hm1, List.length_take, List.length_drop, Nat.min_eq_left (by omega)]), ← splitR_step hik (by omega) hk2 hkk]; exact hi2, by simp; omega, by simp; omega, sizes_put hm4 (by omega) (by have := hm4 (gE gs2 (m : Int)) (gE_mem' (by omega)); simp; omega)⟩ (by omega) (.cons rfl (.cons rfl (.cons rfl (.cons rfl .nil)))) (List.Sublist.refl _) rfl
 ·
  refine W ?_
  exact At.final (N' := rowE sK 40 V (gs.map (·.1)) :: seg iK 43 gs) rfl (.t rfl) (List.Sublist.refl _) (⟨gs, by rw [List.drop_eq_nil_of_le (by omega), splitR_nil] at hi2; exact hi2, rfl, rfl⟩)
end Go.Proofs.YtbolanigdkgbdaaGreat
namespace Go.Proofs.YtbolanigdkgbdaaGreat
open Go Go.RowKit
set_option maxRecDepth 10000
set_option linter.unusedVariables false
set_option linter.unnecessarySimpa false
set_option maxHeartbeats 1000000
theorem bt_224 : buildTab Tryz.prog 224 = some (#[.int .i64 0, .int .i64 0], [(0, 1), (1, 1)]) := by kernel_rfl
theorem et_224 : elemTab Tryz.prog 224 = some (2, 16) := by kernel_rfl
theorem fo_237_1 : fieldOff? Tryz.prog 237 1 = some 1 := by kernel_rfl
theorem fo_237_2 : fieldOff? Tryz.prog 237 2 = some 2 := by kernel_rfl
theorem fo_239_0 : fieldOff? Tryz.prog 239 0 = some 0 := by kernel_rfl
theorem fo_239_1 : fieldOff? Tryz.prog 239 1 = some 1 := by kernel_rfl
theorem fo_239_2 : fieldOff? Tryz.prog 239 2 = some 2 := by kernel_rfl
theorem fq_239 : flatQ Tryz.prog 239 = some [true, true, true] := by kernel_rfl
def cellW (a : Int) (k : Nat) (y : Cel) : List (Int × Int) := if y = ⟨0, 0, 0⟩ then [] else [(a + 7 + 3 * (k : Int), y.state), (a + 7 + 3 * (k : Int) + 1, y.key), (a + 7 + 3 * (k : Int) + 2, y.data)]
def cellsW (a : Int) (l : List Cel) : Nat → List (Int × Int)
  | 0 => []
  | k + 1 => cellsW a l k ++ cellW a k (gE l (k : Int))
def wordsF (cs : List (Chk × List Cel)) : Nat → List (Int × Int)
  | 0 => []
  | i + 1 => wordsF cs i ++ ([((gE cs (i : Int)).1.a0 + 0, (gE cs (i : Int)).1.a1), ((gE cs (i : Int)).1.a0 + 1, (gE cs (i : Int)).1.a2), ((gE cs (i : Int)).1.a0 + 2, (gE cs (i : Int)).1.a3)] ++ cellsW (gE cs (i : Int)).1.a0 (gE cs (i : Int)).2 (gE cs (i : Int)).2.length)
theorem wordsF_step {cs : List (Chk × List Cel)} {i : Nat} {out : List (Int × Int)} (_h : i < cs.length) (ho : out = wordsF cs i) : out ++ [((gE cs (i : Int)).1.a0 + 0, (gE cs (i : Int)).1.a1), ((gE cs (i : Int)).1.a0 + 1, (gE cs (i : Int)).1.a2), ((gE cs (i : Int)).1.a0 + 2, (gE cs (i : Int)).1.a3)] ++ cellsW (gE cs (i : Int)).1.a0 (gE cs (i : Int)).2 (gE cs (i : Int)).2.length = wordsF cs (i + 1) := by
  rw [ho, List.append_assoc]; rfl
theorem cellsW_yes {a : Int} {l : List Cel} {k : Nat} {A : List (Int × Int)} (h : ¬ gE l (k : Int) = ⟨0, 0, 0⟩) : (A ++ cellsW a l k) ++ [(a + 7 + 3 * (k : Int), (gE l (k : Int)).state), (a + 7 + 3 * (k : Int) + 1, (gE l (k : Int)).key), (a + 7 + 3 * (k : Int) + 2, (gE l (k : Int)).data)] = A ++ cellsW a l (k + 1) := by
  rw [cellsW, cellW, if_neg h, List.append_assoc]
theorem cellsW_no {a : Int} {l : List Cel} {k : Nat} (h : gE l (k : Int) = ⟨0, 0, 0⟩) : cellsW a l (k + 1) = cellsW a l k := by
  rw [cellsW, cellW, if_pos h, List.append_nil]
section
variable [Df] {w0 : World} {S N H : Hp}
theorem chNS {cs : List (Chk × List Cel)} {j : Int} (h : ∀ x ∈ cs, rdE cellK x.1.u.1 x.2 ∈ S) (hj : 0 ≤ j ∧ j < cs.length) : RdIn (fun w => St w0 w S N H) (gE cs j).1.u.1 cellK.sz (gE cs j).2.length (cellK.all (gE cs j).2) :=
  rS (List.mem_append_left _ (h _ (gE_mem' hj)))
end
theorem d_Words {u : Value} {cs : List (Chk × List Cel)} (hL : cs.length ≤ 100) (hB : ∀ x ∈ cs, -1152921504606846976 ≤ x.1.a0 ∧ x.1.a0 ≤ 1152921504606846976 ∧ x.2.length ≤ 100) : Fn Tryz.prog 173 [u] (rdE chK u (cs.map (·.1)) :: cs.map fun x => rdE cellK x.1.u.1 x.2) ([]) (IsR pK 224 (wordsF cs cs.length)) := by
 refine Fn.enter Tryz.func173 (by kernel_rfl) rfl (n := 77) rfl rfl (fun w => ?_)
 have hG : ∀ x ∈ cs, rdE cellK x.1.u.1 x.2 ∈ (rdE chK u (cs.map (·.1)) :: cs.map fun x => rdE cellK x.1.u.1 x.2) := fun x hx => .tail _ (List.mem_map.2 ⟨x, hx, rfl⟩)
 have hml : (cs.map (·.1)).length = cs.length := List.length_map _
 refine W ?_
 refine At.nilRow pK 224 ?_
 refine At.loop3 (fun (i : Nat) (out : List (Int × Int)) (v : Value) => i ≤ cs.length ∧ out = wordsF cs i ∧ out.length ≤ 303 * i) (fun (i : Nat) (out : List (Int × Int)) (v : Value) => cs.length - i) (fun (i : Nat) (out : List (Int × Int)) (v : Value) => [(0, true, u), (3, true, v), (4, true, .int .i64 i)]) (fun (i : Nat) (out : List (Int × Int)) (v : Value) => [rowE pK 224 v out]) (fun (i : Nat) (out : List (Int × Int)) (v : Value) => []) (0) ([]) ((.slice none 0 0)) ⟨Nat.zero_le _, rfl, Nat.le_refl _⟩ (.cons rfl (.cons rfl (.cons rfl .nil))) (List.Sublist.refl _) rfl (fun i out v hi => ?_)
 obtain ⟨hi1, hi2, hi3⟩ := hi
 refine Z ?_
 refine At.condD (.t rfl) (fun c1 => ?_) (fun c1 => ?_)
 ·
  have hx := hB (gE cs (i : Int)) (gE_mem' (by omega))
  refine W ?_
  refine eA rfl (R.as (R.loadRdAgg (us := chK.enc _) Tryz.underlying237 rfl sz_237 (.t rfl) (rS M0) gO (fun hg => by exact Ek.getA (by omega))) (fun _ => congrArg (fun z : Chk => Value.agg (chK.enc z).toArray) (gE_map (fun x : Chk × List Cel => x.1) rfl cs (i : Int)))) ?_
  refine At.alloc rfl rfl rfl ze_237 (fun b1 hb1 => ⟨.all, ?_⟩)
  refine At.stAll (vs := [.int .i64 (gE cs (i : Int)).1.a0, .int .i64 (gE cs (i : Int)).1.a1, .int .i64 (gE cs (i : Int)).1.a2, .int .i64 (gE cs (i : Int)).1.a3, .int .i64 (gE cs (i : Int)).1.a4, .int .i64 (gE cs (i : Int)).1.a5, .int .i64 (gE cs (i : Int)).1.a6, .int .i64 (gE cs (i : Int)).1.a7, (gE cs (i : Int)).1.u.1]) rfl rfl sz_237 (.t rfl) (.t rfl) (hone9 (gE cs (i : Int)).1.u.2) rfl rfl (.n U0) ⟨.all, ?_⟩
  refine W ?_
  refine eA rfl (R.build bt_224 (.k rfl (.k rfl .nil)) (.cons rfl (.cons rfl .nil)) rfl) ?_
  refine W ?_
  refine eA rfl (R.build bt_224 (.k rfl (.k rfl .nil)) (.cons rfl (.cons rfl .nil)) rfl) ?_
  refine W ?_
  refine eA rfl (R.build bt_224 (.k rfl (.k rfl .nil)) (.cons rfl (.cons rfl .nil)) rfl) ?_
  refine At.lit (k := pK) rfl rfl rfl Tryz.underlying203 et_224 (.k rfl (.k rfl (.k rfl .nil))) (.cons (y := ⟨_, _⟩) rfl (.cons (y := ⟨_, _⟩) rfl (.cons (y := ⟨_, _⟩) rfl .nil))) rfl rfl rfl (fun v1 => ⟨.all, ?_⟩)
  refine At.app (k := pK) rfl rfl rfl Tryz.underlying203 et_224 (.t rfl) (.t rfl) (fun _ => by (exact U2)) (wN M0) (by (simp <;> omega)) (fun v2 => ⟨.all, ?_⟩)
  refine W ?_
  refine At.loop3 (fun (k : Nat) (o2 : List (Int × Int)) (v2 : Value) => k ≤ (gE cs (i : Int)).2.length ∧ o2 = out ++ [((gE cs (i : Int)).1.a0 + 0, (gE cs (i : Int)).1.a1), ((gE cs (i : Int)).1.a0 + 1, (gE cs (i : Int)).1.a2), ((gE cs (i : Int)).1.a0 + 2, (gE cs (i : Int)).1.a3)] ++ cellsW (gE cs (i : Int)).1.a0 (gE cs (i : Int)).2 k ∧ o2.length ≤ 303 * i + 3 + 3 * k) (fun (k : Nat) (o2 : List (Int × Int)) (v2 : Value) => (gE cs (i : Int)).2.length - k) (fun (k : Nat) (o2 : List (Int × Int)) (v2 : Value) => [(0, true, u), (3, true, v2), (4, true, .int .i64 i), (5, true, .pointer (some ⟨b1, 0, none⟩)), (6, true, .int .i64 k)]) (fun (k : Nat) (o2 : List (Int × Int)) (v2 : Value) => [.blk b1 (.cells #[.int .i64 (gE cs (i : Int)).1.a0, .int .i64 (gE cs (i : Int)).1.a1, .int .i64 (gE cs (i : Int)).1.a2, .int .i64 (gE cs (i : Int)).1.a3, .int .i64 (gE cs (i : Int)).1.a4, .int .i64 (gE cs (i : Int)).1.a5, .int .i64 (gE cs (i : Int)).1.a6, .int .i64 (gE cs (i : Int)).1.a7, (gE cs (i : Int)).1.u.1] 237), rowE pK 224 v2 o2]) (fun (k : Nat) (o2 : List (Int × Int)) (v2 : Value) => []) (0) (out ++ [((gE cs (i : Int)).1.a0 + 0, (gE cs (i : Int)).1.a1), ((gE cs (i : Int)).1.a0 + 1, (gE cs (i : Int)).1.a2), ((gE cs (i : Int)).1.a0 + 2, (gE cs (i : Int)).1.a3)]) (v2) ⟨Nat.zero_le _, (List.append_nil _).symm, by simp; omega⟩ (.cons rfl (.cons rfl (.cons rfl (.cons rfl (.cons rfl .nil))))) sl rfl (fun k o2 v2 hi => ?_)
  obtain ⟨hk1, ho2, ho3⟩ := hi
  refine U ?_
  refine eA rfl (R.lenRd Tryz.underlying235 (.t rfl) (by exact chNS hG (by omega))) ?_
  refine eA rfl (R.lss (.t rfl) (.t rfl)) ?_
  refine U ?_
  refine At.condD (.t rfl) (fun c2 => ?_) (fun c2 => ?_)
  ·
   refine U ?_
   refine eA rfl (R.indexRd Tryz.underlying235 sz_239 (.t rfl) (by exact chNS hG (by omega)) (.t rfl) gO) ?_
   refine eA rfl (R.loadRdAgg (us := cellK.enc _) Tryz.underlying239 rfl sz_239 (.t rfl) (by exact chNS hG (by omega)) gO (fun hg => by exact Ek.getA (by omega))) ?_
   refine At.alloc rfl rfl rfl ze_239 (fun b2 hb2 => ⟨.all, ?_⟩)
   refine At.stAll (vs := [.int .i64 (gE (gE cs (i : Int)).2 (k : Int)).state, .int .i64 (gE (gE cs (i : Int)).2 (k : Int)).key, .int .i64 (gE (gE cs (i : Int)).2 (k : Int)).data]) rfl rfl sz_239 (.t rfl) (.t rfl) rfl rfl rfl (.n U0) ⟨.all, ?_⟩
   refine W ?_
   refine eA rfl (R.build bt_239 .nil .nil rfl) ?_
   refine eA rfl (R.as (R.neqS fq_239 (.t rfl) (.t rfl) rfl) (fun _ => congrArg (fun b => Value.bool (!b)) (cellK_eqb (x := (gE (gE cs (i : Int)).2 (k : Int))) (y := ⟨0, 0, 0⟩)))) ?_
   refine W ?_
   refine At.condN (.t rfl) (fun c3 => ?_) (fun c3 => ?_)
   ·
    refine W ?_
    refine At.callVR rfl rfl rfl (.k rfl (.k rfl .nil)) (.nil) (fun hg => r_StateAt (by omega) (by omega)) .all ?_
    refine W ?_
    refine eA rfl (R.build bt_224 (.k rfl (.k rfl .nil)) (.cons rfl (.cons rfl .nil)) rfl) ?_
    refine W ?_
    refine eA rfl (R.build bt_224 (.k rfl (.k rfl .nil)) (.cons rfl (.cons rfl .nil)) rfl) ?_
    refine W ?_
    refine eA rfl (R.build bt_224 (.k rfl (.k rfl .nil)) (.cons rfl (.cons rfl .nil)) rfl) ?_
    refine At.lit (k := pK) rfl rfl rfl Tryz.underlying203 et_224 (.k rfl (.k rfl (.k rfl .nil))) (.cons (y := ⟨_, _⟩) rfl (.cons (y := ⟨_, _⟩) rfl (.cons (y := ⟨_, _⟩) rfl .nil))) rfl rfl rfl (fun v3 => ⟨.all, ?_⟩)
    refine At.app (k := pK) rfl rfl rfl Tryz.underlying203 et_224 (.t rfl) (.t rfl) (fun _ => by (exact U3)) (wN M0) (by (simp <;> omega)) (fun v4 => ⟨.all, ?_⟩)
    refine W ?_
    exact At.again3 (k + 1) (o2 ++ [((gE cs (i : Int)).1.a0 + 7 + 3 * (k : Int), (gE (gE cs (i : Int)).2 (k : Int)).state), ((gE cs (i : Int)).1.a0 + 7 + 3 * (k : Int) + 1, (gE (gE cs (i : Int)).2 (k : Int)).key), ((gE cs (i : Int)).1.a0 + 7 + 3 * (k : Int) + 2, (gE (gE cs (i : Int)).2 (k : Int)).data)]) (v4) ⟨by omega, by rw [ho2]; exact cellsW_yes (by simpa using c3), by simp; omega⟩ (by omega) (.cons rfl (.cons rfl (.cons rfl (.cons rfl (.cons rfl .nil))))) sl rfl
   ·
    refine W ?_
    exact At.again3 (k + 1) (o2) (v2) ⟨by omega, by rw [ho2, cellsW_no (by simpa using c3)], by omega⟩ (by omega) (.cons rfl (.cons rfl (.cons rfl (.cons rfl (.cons rfl .nil))))) sl rfl
  ·
   refine W ?_
   exact At.again3 (i + 1) (o2) (v2) ⟨by omega, by rw [ho2, show k = (gE cs (i : Int)).2.length from by omega]; exact wordsF_step (by omega) hi2, by omega⟩ (by omega) (.cons rfl (.cons rfl (.cons rfl .nil))) sl rfl
 ·
  refine W ?_
  exact At.final (N' := [rowE pK 224 v out]) rfl (.t rfl) (List.Sublist.refl _) (⟨by rw [show i = cs.length from by omega] at hi2; rw [hi2], rfl⟩)
end Go.Proofs.YtbolanigdkgbdaaGreat
namespace Go.Proofs.YtbolanigdkgbdaaGreat
open Go Go.RowKit
set_option linter.unusedVariables false
variable [Df]
section
variable {P : Program} {w0 : World} {n : Nat} {S N H : Hp} {l : Fr} {ops : Array Oper} {C : World → Prop} {K : Act → World → Prop} {r : List (Bool × Nat)} {i : Nat}
theorem Cl.perm {N N' : Hp} (hp : N.Perm N') (h : Cl w0 S N' H C) : Cl w0 S N H C := fun w hw => h w (hw.perm hp)
theorem At.callRG {d : Nat} {xs : List Operand} {ats : Array TypeId} {ty : TypeId} {pos : String} {af : Array Edge} {gd : Option (Nat × Bool)} {f : FuncId} {vs : List Value} {S' : Hp} {Eo E : TypeId} {G : List (List Itm)}
    (ho : ops[i]? = some ⟨some d, .call { callee := .value (.func f), args := xs.toArray, argTypes := ats }, ty, pos, af, gd⟩) (hdn : Nat.blt d n = true) (hg : wantG ops l ⟨some d, .call { callee := .value (.func f), args := xs.toArray, argTypes := ats }, ty, pos, af, gd⟩ = some true)
    (hxs : Evs n l true xs vs) (hS : Rds (fun w => St w0 w S N H) S') (hc : Fn P f vs S' [] (IsG Eo E G))
    (h : ∀ v (gs : List (SV × List Itm)), gs.map (·.2) = G → Cl w0 S (rowE sK Eo v (gs.map (·.1)) :: (N ++ seg iK E gs)) H C ∧ At w0 n S ((d, true, v) :: l) (rowE sK Eo v (gs.map (·.1)) :: (N ++ seg iK E gs)) H (wpSch P ops C K r)) : At w0 n S l N H (wpSch P ops C K ((false, i) :: r)) :=
  At.callP (fst := []) (cap := []) ho hdn hg Ev.f hxs (by simp) hc hS.all (fun v N' H' hR => by
    obtain ⟨gs, hgs, rfl, rfl⟩ := hR
    obtain ⟨h1, h2⟩ := h v gs hgs
    have hp : ((rowE sK Eo v (gs.map (·.1)) :: seg iK E gs) ++ N).Perm (rowE sK Eo v (gs.map (·.1)) :: (N ++ seg iK E gs)) := List.Perm.cons _ List.perm_append_comm
    exact ⟨rfl, h1.perm hp, At.perm hp h2⟩)
theorem At.callRC {d : Nat} {xs : List Operand} {ats : Array TypeId} {ty : TypeId} {pos : String} {af : Array Edge} {gd : Option (Nat × Bool)} {f : FuncId} {vs : List Value} {S' : Hp} {Eo E : TypeId} {L : List (List Int × List Cel)}
    (ho : ops[i]? = some ⟨some d, .call { callee := .value (.func f), args := xs.toArray, argTypes := ats }, ty, pos, af, gd⟩) (hdn : Nat.blt d n = true) (hg : wantG ops l ⟨some d, .call { callee := .value (.func f), args := xs.toArray, argTypes := ats }, ty, pos, af, gd⟩ = some true)
    (hxs : Evs n l true xs vs) (hS : Rds (fun w => St w0 w S N H) S') (hc : Fn P f vs S' [] (IsC Eo E L))
    (h : ∀ v (cs : List (Chk × List Cel)), cs.map (fun x => (hd x.1, x.2)) = L → Cl w0 S (rowE chK Eo v (cs.map (·.1)) :: (N ++ csg E cs)) H C ∧ At w0 n S ((d, true, v) :: l) (rowE chK Eo v (cs.map (·.1)) :: (N ++ csg E cs)) H (wpSch P ops C K r)) : At w0 n S l N H (wpSch P ops C K ((false, i) :: r)) :=
  At.callP (fst := []) (cap := []) ho hdn hg Ev.f hxs (by simp) hc hS.all (fun v N' H' hR => by
    obtain ⟨cs, hcs, rfl, rfl⟩ := hR
    obtain ⟨h1, h2⟩ := h v cs hcs
    have hp : ((rowE chK Eo v (cs.map (·.1)) :: csg E cs) ++ N).Perm (rowE chK Eo v (cs.map (·.1)) :: (N ++ csg E cs)) := List.Perm.cons _ List.perm_append_comm
    exact ⟨rfl, h1.perm hp, At.perm hp h2⟩)
theorem segAll {α : Type} {k : Ek α} {E : TypeId} {gs : List (SV × List α)} (hs : (seg k E gs).Sublist N) : ∀ x ∈ gs, RdIn (fun w => St w0 w S N H) x.1.1 k.sz x.2.length (k.all x.2) := fun x hx =>
  wS (E := E) (List.mem_append_right _ (List.mem_append_left _ (hs.subset (List.mem_map.2 ⟨x, hx, rfl⟩))))
end
theorem asN_snd (gs : List (SV × List Itm)) : (asN gs).map (fun x : Value × List Itm => x.2) = gs.map (·.2) := by simp [asN]
theorem asN_len (gs : List (SV × List Itm)) : (asN gs).length = gs.length := List.length_map _
theorem csLen {L : List (List Int × List Cel)} {cs : List (Chk × List Cel)} (h : cs.map (fun x => (hd x.1, x.2)) = L) : cs.length = L.length := by rw [← h, List.length_map]
theorem Rds.ofCs {C : World → Prop} {cs : List (Chk × List Cel)} {V : Value} (h0 : RdIn C V chK.sz (cs.map (fun x : Chk × List Cel => x.1)).length (chK.all (cs.map (fun x : Chk × List Cel => x.1)))) (h : ∀ x ∈ cs, RdIn C x.1.u.1 cellK.sz x.2.length (cellK.all x.2)) : Rds C (rdE chK V (cs.map (fun x : Chk × List Cel => x.1)) :: cs.map fun x => rdE cellK x.1.u.1 x.2) := by
  refine Rds.cons h0 ?_
  clear h0
  induction cs with
  | nil => exact .nil
  | cons x gs ih => exact Rds.cons (h x (by simp)) (ih fun y hy => h y (by simp [hy]))
theorem csgAll {w0 : World} {S N H : Hp} {E : TypeId} {cs : List (Chk × List Cel)} (hs : (csg E cs).Sublist N) : ∀ x ∈ cs, RdIn (fun w => St w0 w S N H) x.1.u.1 cellK.sz x.2.length (cellK.all x.2) := fun x hx =>
  wS (E := E) (List.mem_append_right _ (List.mem_append_left _ (hs.subset (List.mem_map.2 ⟨x, hx, rfl⟩))))
end Go.Proofs.YtbolanigdkgbdaaGreat
namespace Go.Proofs.YtbolanigdkgbdaaGreat
open Go Go.RowKit
set_option maxRecDepth 10000
set_option linter.unusedVariables false
set_option linter.unnecessarySimpa false
set_option maxHeartbeats 1000000
theorem bt_205 : buildTab Tryz.prog 205 = some (#[.int .i64 0, .int .i64 0, .int .i64 0, .int .i64 0, .int .i64 0, .int .i64 0, .int .i64 0, .slice none 0 0, .int .i64 0, .int .i64 0, .int .i64 0, .int .i64 0, .int .i64 0, .int .i64 0, .int .i64 0, .slice none 0 0, .slice none 0 0, .slice none 0 0, .int .i64 0, .int .i64 0], [(0, 4), (4, 1), (5, 1), (6, 1), (7, 1), (8, 1), (9, 1), (10, 1), (11, 1), (12, 3), (15, 1), (16, 1), (17, 1), (18, 1), (19, 1)]) := by kernel_rfl
theorem fo_205_0 : fieldOff? Tryz.prog 205 0 = some 0 := by kernel_rfl
theorem fo_205_10 : fieldOff? Tryz.prog 205 10 = some 15 := by kernel_rfl
theorem fo_205_11 : fieldOff? Tryz.prog 205 11 = some 16 := by kernel_rfl
theorem fo_205_2 : fieldOff? Tryz.prog 205 2 = some 5 := by kernel_rfl
theorem fo_205_4 : fieldOff? Tryz.prog 205 4 = some 7 := by kernel_rfl
theorem fo_205_5 : fieldOff? Tryz.prog 205 5 = some 8 := by kernel_rfl
theorem fo_205_6 : fieldOff? Tryz.prog 205 6 = some 9 := by kernel_rfl
theorem sz_202 : (Tryz.prog.info? 202).map (·.size) = some 1 := by kernel_rfl
theorem keepF_le (s : List Itm) (vs : List Int) : ∀ n, (keepF s vs n).length ≤ n
  | 0 => Nat.le_refl _
  | n + 1 => by
    have := keepF_le s vs n
    unfold keepF
    split
    · simp; omega
    · omega
structure Db where
  th : Int
  cap : Nat
  wd : Int
  ver : Int
  chunk : Int
  mate : Int
  after : Int
  line : Int
  i : Int
  min : Int
  at_ : Int
  xk : Int
  xv : Int
  xd : Int
  repl : Int
  e : Int
abbrev dbC (Vv Lv Gv Wv : Value) (x : Db) : Array Value := #[.int .i64 x.th, .int .i64 (x.cap : Int), .int .i64 x.wd, .int .i64 x.ver, .int .i64 x.chunk, .int .i64 x.mate, .int .i64 x.after, Vv, .int .i64 x.line, .int .i64 x.i, .int .i64 x.min, .int .i64 x.at_, .int .i64 x.xk, .int .i64 x.xv, .int .i64 x.xd, Lv, Gv, Wv, .int .i64 x.repl, .int .i64 x.e]
abbrev dbB (b : Nat) (Vv Lv Gv Wv : Value) (x : Db) : Ent := .blk b (.cells (dbC Vv Lv Gv Wv x) 205)
theorem db_New {th wd ver chunk mate after : Int} {cap : Nat} {Vv : Value} {vs : List Int} : FnX Tryz.prog 169 [.agg #[.int .i64 th, .int .i64 (cap : Int), .int .i64 wd, .int .i64 ver], .int .i64 chunk, .int .i64 mate, .int .i64 after, Vv] ([]) ([rowE zK 3 Vv vs]) (fun v N => ∃ b, v = .pointer (some ⟨b, 0, none⟩) ∧ N = [dbB b Vv (.slice none 0 0) (.slice none 0 0) (.slice none 0 0) (⟨th, cap, wd, ver, chunk, mate, after, 1, 0, 0, 0, 0, 0, 0, 0, 0⟩ : Db), rowE zK 3 Vv vs]) := by
 refine FnX.enter Tryz.func169 (by kernel_rfl) rfl (n := 18) rfl rfl (fun w df hds how => ?_)
 refine W ?_
 refine At.box rfl rfl rfl (.t rfl) (fun b1 hb1 => ⟨.all, ?_⟩)
 refine W ?_
 refine At.rowOne (v := Vv) (M1) (fun h1v => ?_)
 refine eA rfl (R.build (cs := [.int .i64 th, .int .i64 (cap : Int), .int .i64 wd, .int .i64 ver, .int .i64 chunk, .int .i64 mate, .int .i64 after, Vv, .int .i64 1, .int .i64 0, .int .i64 0, .int .i64 0, .int .i64 0, .int .i64 0, .int .i64 0, (.slice none 0 0), (.slice none 0 0), (.slice none 0 0), .int .i64 0, .int .i64 0]) bt_205 (.k rfl (.k rfl (.k rfl (.k rfl (.k rfl (.kc .nil)))))) (.cons rfl (.cons rfl (.cons rfl (.cons rfl (.cons (c := [_]) (cells_one h1v) (.cons rfl .nil)))))) rfl) ?_
 refine At.box rfl rfl rfl (.t rfl) (fun b2 hb2 => ⟨.all, ?_⟩)
 refine W ?_
 exact At.finalX (N' := [dbB b2 Vv (.slice none 0 0) (.slice none 0 0) (.slice none 0 0) (⟨th, cap, wd, ver, chunk, mate, after, 1, 0, 0, 0, 0, 0, 0, 0, 0⟩ : Db), rowE zK 3 Vv vs]) hds how rfl (.t rfl) sl (⟨b2, rfl, rfl⟩)
theorem db_nextA {b : Nat} {Vv Lv Gv Wv : Value} {x : Db} (hi0 : -1 ≤ x.i ∧ x.i ≤ 50000) (hcap : x.cap ≤ 16) (hc : x.i + 1 < cellsD (x.cap : Int) x.mate) : Fn Tryz.prog 171 [.pointer (some ⟨b, 0, none⟩)] ([]) ([dbB b Vv Lv Gv Wv x]) (IsM (.tuple #[]) [dbB b Vv Lv Gv Wv (⟨x.th, x.cap, x.wd, x.ver, x.chunk, x.mate, x.after, 2, (x.i + 1), x.min, x.at_, x.xk, x.xv, x.xd, x.repl, x.e⟩ : Db)]) := by
 refine Fn.enter Tryz.func171 (by kernel_rfl) rfl (n := 48) rfl rfl (fun w => ?_)
 refine W ?_
 refine At.st1 rfl rfl sz_3 (.t rfl) (.t rfl) rfl rfl (.h U0) ⟨.all, ?_⟩
 refine W ?_
 refine At.st1 rfl rfl sz_3 (.t rfl) .c rfl rfl (.h U0) ⟨.all, ?_⟩
 refine W ?_
 refine At.drawK [tt 0, tt 1, tt 2, tt 3, tt 4, tt 5, tt 6, tt 7, tt 8, tt 9, tt 10, tt 11, ff 12, tt 13] (by kernel_rfl) (by kernel_rfl) ?_
 refine W ?_
 refine At.callVR rfl rfl rfl (.k rfl (.k rfl .nil)) (.nil) (fun hg => d_cells (by omega)) kI ?_
 refine sJ rfl (R.as (R.geq (.t rfl) (.t rfl)) dF) ?_
 refine W ?_
 exact At.final0 rfl (List.nil_sublist _) (⟨rfl, rfl, rfl⟩) _ (.inr rfl)
theorem db_nextB {b : Nat} {Vv Lv Gv Wv : Value} {x : Db} {l : List Itm} {vs : List Int} (hi0 : -1 ≤ x.i ∧ x.i ≤ 50000) (hcap : x.cap ≤ 16) (hL : l.length ≤ 500) (hc : ¬ x.i + 1 < cellsD (x.cap : Int) x.mate) : FnX Tryz.prog 171 [.pointer (some ⟨b, 0, none⟩)] ([]) ([dbB b Vv Lv Gv Wv x, rowE zK 3 Vv vs, rowE iK 43 Lv l]) (fun v N => ∃ Gv2 gs, v = .tuple #[] ∧ gs.map (·.2) = splitR (max 2 (min (x.cap : Int) 16) / 2) [[]] (keepF (sortF l) vs (sortF l).length) ∧ N = rowE sK 40 Gv2 (gs.map (·.1)) :: dbB b Vv Lv Gv2 Wv (⟨x.th, x.cap, x.wd, x.ver, x.chunk, x.mate, x.after, 5, (x.i + 1), x.min, x.at_, x.xk, x.xv, x.xd, x.repl, x.e⟩ : Db) :: seg iK 43 gs) := by
 refine FnX.enter Tryz.func171 (by kernel_rfl) rfl (n := 48) rfl rfl (fun w df hds how => ?_)
 have hkl := keepF_le (sortF l) vs (sortF l).length
 have hsl := sortF_length l
 refine W ?_
 refine At.st1 rfl rfl sz_3 (.t rfl) (.t rfl) rfl rfl (.n U0) ⟨.all, ?_⟩
 refine W ?_
 refine At.st1 rfl rfl sz_3 (.t rfl) .c rfl rfl (.n U0) ⟨.all, ?_⟩
 refine W ?_
 refine At.drawK [tt 0, tt 1, tt 2, tt 3, tt 4, tt 5, tt 6, tt 7, tt 8, tt 9, tt 10, tt 11, ff 12, tt 13] (by kernel_rfl) (by kernel_rfl) ?_
 refine W ?_
 refine At.callVR rfl rfl rfl (.k rfl (.k rfl .nil)) (.nil) (fun hg => d_cells (by omega)) kI ?_
 refine sJ rfl (R.as (R.geq (.t rfl) (.t rfl)) dT) ?_
 refine W ?_
 refine At.re (N' := [dbB b Vv Lv Gv Wv (⟨x.th, x.cap, x.wd, x.ver, x.chunk, x.mate, x.after, 2, (x.i + 1), x.min, x.at_, x.xk, x.xv, x.xd, x.repl, x.e⟩ : Db), rowE zK 3 Vv vs, rowE iK 43 Lv l]) rfl ?_
 refine At.drawM ([dbB b Vv Lv Gv Wv (⟨x.th, x.cap, x.wd, x.ver, x.chunk, x.mate, x.after, 2, (x.i + 1), x.min, x.at_, x.xk, x.xv, x.xd, x.repl, x.e⟩ : Db), rowE zK 3 Vv vs, rowE iK 43 Lv l]) ([]) [(true, 0), (true, 1), (true, 2), (true, 3), (true, 5), (true, 6), (true, 7), (true, 10), (true, 11), (true, 12), (true, 13)] [(true, 4), (true, 8), (true, 14), (false, 9), (false, 15)] [(true, 16), (true, 17), (false, 18)] (by (exact fun _ h => h)) (fun _ h => nomatch h) (by kernel_rfl) (by kernel_rfl) ?_
 refine V ?_
 refine At.stage kI ?_
 refine W ?_
 refine At.callRF rfl rfl rfl (.k rfl (.k rfl .nil)) (by (exact .cons (wS M2) (.cons (wS M1) .nil))) (c_rKeep (by omega)) (fun v1 => ⟨kz, ?_⟩)
 refine At.callRG rfl rfl rfl (.k rfl (.k rfl .nil)) (.cons (wS M0) .nil) (c_rSplit (by omega)) (fun Gv2 gs hgs => ⟨kz, ?_⟩)
 refine At.stage Cl.none ?_
 refine W ?_
 refine At.rowOne (v := Gv2) (M0) (fun h1v => ?_)
 refine At.st1 rfl rfl sz_202 (.t rfl) (.t rfl) h1v rfl (.n U2) ⟨Cl.none, ?_⟩
 refine W ?_
 refine At.st1 rfl rfl sz_3 (.t rfl) .c rfl rfl (.n U2) ⟨.all, ?_⟩
 refine W ?_
 exact At.finalX0 (N' := rowE sK 40 Gv2 (gs.map (·.1)) :: dbB b Vv Lv Gv2 Wv (⟨x.th, x.cap, x.wd, x.ver, x.chunk, x.mate, x.after, 5, (x.i + 1), x.min, x.at_, x.xk, x.xv, x.xd, x.repl, x.e⟩ : Db) :: seg iK 43 gs) hds how rfl sl (⟨Gv2, gs, rfl, hgs, rfl⟩) _ (.inr rfl)
end Go.Proofs.YtbolanigdkgbdaaGreat
namespace Go.Proofs.YtbolanigdkgbdaaGreat
open Go Go.RowKit
set_option maxRecDepth 10000
set_option linter.unusedVariables false
set_option linter.unnecessarySimpa false
set_option maxHeartbeats 1000000
theorem fo_205_1 : fieldOff? Tryz.prog 205 1 = some 4 := by kernel_rfl
theorem fo_205_13 : fieldOff? Tryz.prog 205 13 = some 18 := by kernel_rfl
theorem fo_205_7 : fieldOff? Tryz.prog 205 7 = some 10 := by kernel_rfl
theorem fo_205_8 : fieldOff? Tryz.prog 205 8 = some 11 := by kernel_rfl
theorem fo_205_9 : fieldOff? Tryz.prog 205 9 = some 12 := by kernel_rfl
structure Db.ok (x : Db) : Prop where
  chunk : -1152921504606846976 ≤ x.chunk ∧ x.chunk ≤ 1152921504606846976
  mate : -1152921504606846976 ≤ x.mate ∧ x.mate ≤ 1152921504606846976
  after : -1152921504606846976 ≤ x.after ∧ x.after ≤ 1152921504606846976
  cap : 1 ≤ x.cap ∧ x.cap ≤ 16
  ii : -1 ≤ x.i ∧ x.i ≤ 50000
theorem cellAtD_bd (c : Int) {chunk mate i : Int} (h0 : -1152921504606846976 ≤ chunk ∧ chunk ≤ 1152921504606846976) (h1 : -1152921504606846976 ≤ mate ∧ mate ≤ 1152921504606846976) (hc : 0 ≤ c ∧ c ≤ 16) (hi : -1 ≤ i ∧ i ≤ 50000) : -1152921504606847976 ≤ cellAtD c chunk mate i ∧ cellAtD c chunk mate i ≤ 1152921504607857976 := by unfold cellAtD; split <;> omega
theorem cells_pos {cap : Nat} {mate : Int} (h : 1 ≤ cap) : (-1 : Int) + 1 < cellsD (cap : Int) mate := by unfold cellsD; split <;> omega
theorem d_cellAt2 {a b c d chunk mate i : Int} (h0 : -1152921504606846976 ≤ chunk ∧ chunk ≤ 1152921504606846976) (h1 : -1152921504606846976 ≤ mate ∧ mate ≤ 1152921504606846976) (h2 : -100000 ≤ i ∧ i ≤ 100000) (h3 : 0 ≤ b ∧ b ≤ 1000) : Fn Tryz.prog 164 [.agg #[.int .i64 a, .int .i64 b, .int .i64 c, .int .i64 d], .int .i64 chunk, .int .i64 mate, .int .i64 i] ([]) ([]) (IsV (.int .i64 (cellAtD b chunk mate i))) := by
 refine Fn.enter Tryz.func164 (by kernel_rfl) rfl (n := 22) rfl rfl (fun w => ?_)
 refine W ?_
 refine At.box rfl rfl rfl (.t rfl) (fun b1 hb1 => ⟨.all, ?_⟩)
 refine Z ?_
 refine At.condD (.t rfl) (fun c1 => ?_) (fun c1 => ?_)
 ·
  refine W ?_
  refine At.callVR rfl rfl rfl (.k rfl (.k rfl .nil)) (.nil) (fun hg => r_StateAt (by omega) (by omega)) .all ?_
  refine W ?_
  exact fT rfl (.t rfl) (⟨congrArg (Value.int .i64) (by unfold cellAtD; rw [if_pos c1]), rfl, rfl⟩)
 ·
  refine W ?_
  refine At.callVR rfl rfl rfl (.k rfl (.k rfl .nil)) (.nil) (fun hg => r_StateAt (by omega) (by omega)) .all ?_
  refine W ?_
  exact fT rfl (.t rfl) (⟨congrArg (Value.int .i64) (by unfold cellAtD; rw [if_neg c1]), rfl, rfl⟩)
theorem db_Step1 {b ba n : Nat} {wv Vv Lv Gv Wv : Value} {x : Db} {r : Rr} (hx : x.ok) (hl : x.line = 1) (hn : r.w.length = n) (hN : n ≤ 1000000) (hf : r.few) (hw : r.mid 1152921504606846976) : Fn Tryz.prog 147 [.pointer (some ⟨b, 0, none⟩), .pointer (some ⟨ba, 0, none⟩)] ([]) ([dbB b Vv Lv Gv Wv x, raB ba wv r, raW wv n r]) (IsM (.bool false) [dbB b Vv Lv Gv Wv (⟨x.th, x.cap, x.wd, x.ver, x.chunk, x.mate, x.after, 2, (-1 + 1), (r.peek x.chunk), x.at_, x.xk, x.xv, x.xd, x.repl, x.e⟩ : Db), raB ba wv (r.load x.chunk), raW wv n (r.load x.chunk)]) := by
 refine Fn.enter Tryz.func147 (by kernel_rfl) rfl (n := 267) rfl rfl (fun w => ?_)
 obtain ⟨hx1, hx2, hx3, hx4, hx5⟩ := hx
 have hat := cellAtD_bd (x.cap : Int) hx1 hx2 (show 0 ≤ (x.cap : Int) ∧ (x.cap : Int) ≤ 16 by omega) hx5
 refine W ?_
 refine At.drawK [tt 0, tt 1, tt 2, tt 3, tt 4, tt 5, tt 6, tt 7, tt 8, tt 9, tt 10, tt 11, tt 12, tt 13, tt 14, tt 15, ff 16, tt 17] (by kernel_rfl) (by kernel_rfl) ?_
 refine W ?_
 refine At.callVR rfl rfl rfl (.k rfl (.k rfl (.k rfl (.k rfl .nil)))) (.nil) (fun hg => d_cellAt2 (by omega) (by omega) (by omega) (by omega)) kI ?_
 refine U ?_
 refine eA rfl (R.as (R.eql (.t rfl) .c) dT) ?_
 refine U ?_
 refine At.e rfl rfl rfl rfl .all (R.as (R.addI (.t rfl) .c (fun hg => by omega)) (fun _ => congrArg (Value.int .i64) (Int.add_zero x.chunk))) ?_
 refine cM rfl rfl rfl (.k rfl (.k rfl .nil)) rfl (.h (.skip (.take (.take .nil)))) .nil (r_Load (r := r) (i := x.chunk) hn hN hf) keysRa .nil ⟨.all, ?_⟩
 refine W ?_
 refine At.st1 rfl rfl sz_3 (.t rfl) (.t rfl) rfl rfl (.h U0) ⟨.all, ?_⟩
 refine W ?_
 refine At.st1 rfl rfl sz_3 (.t rfl) .c rfl rfl (.h U0) ⟨.all, ?_⟩
 refine W ?_
 refine cM rfl rfl rfl (.k rfl .nil) rfl (.h (.take .nil)) .nil (db_nextA (x := (⟨x.th, x.cap, x.wd, x.ver, x.chunk, x.mate, x.after, x.line, (-1), (r.peek x.chunk), x.at_, x.xk, x.xv, x.xd, x.repl, x.e⟩ : Db)) (by dsimp only; omega) hx4.2 (cells_pos hx4.1)) rfl .nil ⟨.all, ?_⟩
 refine Z ?_
 exact fT rfl (.t rfl) (⟨rfl, rfl, rfl⟩)
theorem db_Step2 {b ba n : Nat} {wv Vv Lv Gv Wv : Value} {x : Db} {r : Rr} (hx : x.ok) (hl : x.line = 2) (hn : r.w.length = n) (hN : n ≤ 1000000) (hf : r.few) (hw : r.mid 1152921504606846976) (hs : ¬ (r.peek (cellAtD (x.cap : Int) x.chunk x.mate x.i)) < 3) : Fn Tryz.prog 147 [.pointer (some ⟨b, 0, none⟩), .pointer (some ⟨ba, 0, none⟩)] ([]) ([dbB b Vv Lv Gv Wv x, raB ba wv r, raW wv n r]) (IsM (.bool false) [dbB b Vv Lv Gv Wv (⟨x.th, x.cap, x.wd, x.ver, x.chunk, x.mate, x.after, 3, x.i, x.min, x.at_, 0, (verD (r.peek (cellAtD (x.cap : Int) x.chunk x.mate x.i))), 0, x.repl, x.e⟩ : Db), raB ba wv (r.load (cellAtD (x.cap : Int) x.chunk x.mate x.i)), raW wv n (r.load (cellAtD (x.cap : Int) x.chunk x.mate x.i))]) := by
 refine Fn.enter Tryz.func147 (by kernel_rfl) rfl (n := 267) rfl rfl (fun w => ?_)
 obtain ⟨hx1, hx2, hx3, hx4, hx5⟩ := hx
 have hat := cellAtD_bd (x.cap : Int) hx1 hx2 (show 0 ≤ (x.cap : Int) ∧ (x.cap : Int) ≤ 16 by omega) hx5
 refine W ?_
 refine At.drawK [tt 0, tt 1, tt 2, tt 3, tt 4, tt 5, tt 6, tt 7, tt 8, tt 9, tt 10, tt 11, tt 12, tt 13, tt 14, tt 15, ff 16, tt 17] (by kernel_rfl) (by kernel_rfl) ?_
 refine W ?_
 refine At.callVR rfl rfl rfl (.k rfl (.k rfl (.k rfl (.k rfl .nil)))) (.nil) (fun hg => d_cellAt2 (by omega) (by omega) (by omega) (by omega)) kI ?_
 refine Y ?_
 refine cM rfl rfl rfl (.k rfl (.k rfl .nil)) rfl (.h (.skip (.take (.take .nil)))) .nil (r_Load (r := r) (i := (cellAtD (x.cap : Int) x.chunk x.mate x.i)) hn hN hf) keysRa .nil ⟨.all, ?_⟩
 refine W ?_
 refine At.callVR rfl rfl rfl (.k rfl .nil) (.nil) (fun hg => r_Version (by have := Rr.peek_mid hw (by decide) (cellAtD (x.cap : Int) x.chunk x.mate x.i); omega)) .all ?_
 refine eA rfl (R.build bt_43 (.k rfl .nil) (.cons rfl .nil) rfl) ?_
 refine W ?_
 refine At.stN rfl rfl sz_43 (.t rfl) (.t rfl) rfl rfl rfl (.h U0) ⟨.all, ?_⟩
 refine W ?_
 refine At.st1 rfl rfl sz_3 (.t rfl) .c rfl rfl (.h U0) ⟨.all, ?_⟩
 refine W ?_
 refine eA rfl (R.as (R.lss (.t rfl) .c) dF) ?_
 refine W ?_
 refine eA rfl (R.as (R.eql (.t rfl) .c) dF) ?_
 refine W ?_
 exact fT rfl (.t rfl) (⟨rfl, rfl, rfl⟩)
theorem db_Step2a {b ba n : Nat} {wv Vv Lv Gv Wv : Value} {x : Db} {r : Rr} (hx : x.ok) (hl : x.line = 2) (hn : r.w.length = n) (hN : n ≤ 1000000) (hf : r.few) (hw : r.mid 1152921504606846976) (hs : (r.peek (cellAtD (x.cap : Int) x.chunk x.mate x.i)) < 3) (hc : x.i + 1 < cellsD (x.cap : Int) x.mate) : Fn Tryz.prog 147 [.pointer (some ⟨b, 0, none⟩), .pointer (some ⟨ba, 0, none⟩)] ([]) ([dbB b Vv Lv Gv Wv x, raB ba wv r, raW wv n r]) (IsM (.bool false) [dbB b Vv Lv Gv Wv (⟨x.th, x.cap, x.wd, x.ver, x.chunk, x.mate, x.after, 2, (x.i + 1), x.min, x.at_, 0, (verD (r.peek (cellAtD (x.cap : Int) x.chunk x.mate x.i))), 0, x.repl, x.e⟩ : Db), raB ba wv (r.load (cellAtD (x.cap : Int) x.chunk x.mate x.i)), raW wv n (r.load (cellAtD (x.cap : Int) x.chunk x.mate x.i))]) := by
 refine Fn.enter Tryz.func147 (by kernel_rfl) rfl (n := 267) rfl rfl (fun w => ?_)
 obtain ⟨hx1, hx2, hx3, hx4, hx5⟩ := hx
 have hat := cellAtD_bd (x.cap : Int) hx1 hx2 (show 0 ≤ (x.cap : Int) ∧ (x.cap : Int) ≤ 16 by omega) hx5
 refine W ?_
 refine At.drawK [tt 0, tt 1, tt 2, tt 3, tt 4, tt 5, tt 6, tt 7, tt 8, tt 9, tt 10, tt 11, tt 12, tt 13, tt 14, tt 15, ff 16, tt 17] (by kernel_rfl) (by kernel_rfl) ?_
 refine W ?_
 refine At.callVR rfl rfl rfl (.k rfl (.k rfl (.k rfl (.k rfl .nil)))) (.nil) (fun hg => d_cellAt2 (by omega) (by omega) (by omega) (by omega)) kI ?_
 refine Y ?_
 refine cM rfl rfl rfl (.k rfl (.k rfl .nil)) rfl (.h (.skip (.take (.take .nil)))) .nil (r_Load (r := r) (i := (cellAtD (x.cap : Int) x.chunk x.mate x.i)) hn hN hf) keysRa .nil ⟨.all, ?_⟩
 refine W ?_
 refine At.callVR rfl rfl rfl (.k rfl .nil) (.nil) (fun hg => r_Version (by have := Rr.peek_mid hw (by decide) (cellAtD (x.cap : Int) x.chunk x.mate x.i); omega)) .all ?_
 refine eA rfl (R.build bt_43 (.k rfl .nil) (.cons rfl .nil) rfl) ?_
 refine W ?_
 refine At.stN rfl rfl sz_43 (.t rfl) (.t rfl) rfl rfl rfl (.h U0) ⟨.all, ?_⟩
 refine W ?_
 refine At.st1 rfl rfl sz_3 (.t rfl) .c rfl rfl (.h U0) ⟨.all, ?_⟩
 refine W ?_
 refine eA rfl (R.as (R.lss (.t rfl) .c) dT) ?_
 refine W ?_
 refine cM rfl rfl rfl (.k rfl .nil) rfl (.h (.take .nil)) .nil (db_nextA (x := (⟨x.th, x.cap, x.wd, x.ver, x.chunk, x.mate, x.after, 3, x.i, x.min, x.at_, 0, (verD (r.peek (cellAtD (x.cap : Int) x.chunk x.mate x.i))), 0, x.repl, x.e⟩ : Db)) (by dsimp only; omega) hx4.2 hc) rfl .nil ⟨.all, ?_⟩
 refine Z ?_
 exact fT rfl (.t rfl) (⟨rfl, rfl, rfl⟩)
theorem db_Step3 {b ba n : Nat} {wv Vv Lv Gv Wv : Value} {x : Db} {r : Rr} (hx : x.ok) (hl : x.line = 3) (hn : r.w.length = n) (hN : n ≤ 1000000) (hf : r.few) (hw : r.mid 1152921504606846976) : Fn Tryz.prog 147 [.pointer (some ⟨b, 0, none⟩), .pointer (some ⟨ba, 0, none⟩)] ([]) ([dbB b Vv Lv Gv Wv x, raB ba wv r, raW wv n r]) (IsM (.bool false) [dbB b Vv Lv Gv Wv (⟨x.th, x.cap, x.wd, x.ver, x.chunk, x.mate, x.after, 4, x.i, x.min, x.at_, (r.peek ((cellAtD (x.cap : Int) x.chunk x.mate x.i) + 1)), x.xv, x.xd, x.repl, x.e⟩ : Db), raB ba wv (r.load ((cellAtD (x.cap : Int) x.chunk x.mate x.i) + 1)), raW wv n (r.load ((cellAtD (x.cap : Int) x.chunk x.mate x.i) + 1))]) := by
 refine Fn.enter Tryz.func147 (by kernel_rfl) rfl (n := 267) rfl rfl (fun w => ?_)
 obtain ⟨hx1, hx2, hx3, hx4, hx5⟩ := hx
 have hat := cellAtD_bd (x.cap : Int) hx1 hx2 (show 0 ≤ (x.cap : Int) ∧ (x.cap : Int) ≤ 16 by omega) hx5
 refine W ?_
 refine At.drawK [tt 0, tt 1, tt 2, tt 3, tt 4, tt 5, tt 6, tt 7, tt 8, tt 9, tt 10, tt 11, tt 12, tt 13, tt 14, tt 15, ff 16, tt 17] (by kernel_rfl) (by kernel_rfl) ?_
 refine W ?_
 refine At.callVR rfl rfl rfl (.k rfl (.k rfl (.k rfl (.k rfl .nil)))) (.nil) (fun hg => d_cellAt2 (by omega) (by omega) (by omega) (by omega)) kI ?_
 refine Y ?_
 refine cM rfl rfl rfl (.k rfl (.k rfl .nil)) rfl (.h (.skip (.take (.take .nil)))) .nil (r_Load (r := r) (i := (cellAtD (x.cap : Int) x.chunk x.mate x.i) + 1) hn hN hf) keysRa .nil ⟨.all, ?_⟩
 refine W ?_
 refine At.st1 rfl rfl sz_3 (.t rfl) (.t rfl) rfl rfl (.h U0) ⟨.all, ?_⟩
 refine W ?_
 refine At.st1 rfl rfl sz_3 (.t rfl) .c rfl rfl (.h U0) ⟨.all, ?_⟩
 refine Y ?_
 exact fT rfl (.t rfl) (⟨rfl, rfl, rfl⟩)
theorem db_Step7 {b ba n : Nat} {wv Vv Lv Gv Wv : Value} {x : Db} {r : Rr} (hx : x.ok) (hl : x.line = 7) (hn : r.w.length = n) (hN : n ≤ 1000000) (hf : r.few) (hw : r.mid 1152921504606846976) : Fn Tryz.prog 147 [.pointer (some ⟨b, 0, none⟩), .pointer (some ⟨ba, 0, none⟩)] ([]) ([dbB b Vv Lv Gv Wv x, raB ba wv r, raW wv n r]) (IsM (.bool false) [dbB b Vv Lv Gv Wv (⟨x.th, x.cap, x.wd, x.ver, x.chunk, x.mate, x.after, 8, x.i, x.min, x.at_, x.xk, x.xv, x.xd, x.repl, x.e⟩ : Db), raB ba wv (r.swap (x.chunk + 5) 0 x.at_), raW wv n (r.swap (x.chunk + 5) 0 x.at_)]) := by
 refine Fn.enter Tryz.func147 (by kernel_rfl) rfl (n := 267) rfl rfl (fun w => ?_)
 obtain ⟨hx1, hx2, hx3, hx4, hx5⟩ := hx
 have hat := cellAtD_bd (x.cap : Int) hx1 hx2 (show 0 ≤ (x.cap : Int) ∧ (x.cap : Int) ≤ 16 by omega) hx5
 refine W ?_
 refine At.drawK [tt 0, tt 1, tt 2, tt 3, tt 4, tt 5, tt 6, tt 7, tt 8, tt 9, tt 10, tt 11, tt 12, tt 13, tt 14, tt 15, ff 16, tt 17] (by kernel_rfl) (by kernel_rfl) ?_
 refine W ?_
 refine At.callVR rfl rfl rfl (.k rfl (.k rfl (.k rfl (.k rfl .nil)))) (.nil) (fun hg => d_cellAt2 (by omega) (by omega) (by omega) (by omega)) kI ?_
 refine Y ?_
 refine At.drawL ([dbB b Vv Lv Gv Wv x]) [tt 0, tt 1, tt 2, tt 3, tt 4, tt 5, tt 6, tt 7, tt 8, tt 9] [] [ff 10] (keepOf sl) (by kernel_rfl) (by kernel_rfl) ?_
 refine V ?_
 refine At.stage kI ?_
 refine At.stage kz ?_
 refine cM rfl rfl rfl (.k rfl (.k rfl (.kc (.k rfl .nil)))) rfl (.h (.skip (.take (.take .nil)))) .nil (r_Swap (r := r) (i := x.chunk + 5) (o := 0) (x := x.at_) hn hN hf) keysRa .nil ⟨kz, ?_⟩
 refine W ?_
 refine At.st1 rfl rfl sz_3 (.t rfl) .c rfl rfl (.h U0) ⟨.all, ?_⟩
 refine Y ?_
 exact fT rfl (.t rfl) (⟨rfl, rfl, rfl⟩)
theorem db_Step8 {b ba n : Nat} {wv Vv Lv Gv Wv : Value} {x : Db} {r : Rr} (hx : x.ok) (hl : x.line = 8) (hn : r.w.length = n) (hN : n ≤ 1000000) (hf : r.few) (hw : r.mid 1152921504606846976) : Fn Tryz.prog 147 [.pointer (some ⟨b, 0, none⟩), .pointer (some ⟨ba, 0, none⟩)] ([]) ([dbB b Vv Lv Gv Wv x, raB ba wv r, raW wv n r]) (IsM (.bool true) [dbB b Vv Lv Gv Wv (⟨x.th, x.cap, x.wd, x.ver, x.chunk, x.mate, x.after, 0, x.i, x.min, x.at_, x.xk, x.xv, x.xd, (r.peek (x.chunk + 5)), x.e⟩ : Db), raB ba wv (r.load (x.chunk + 5)), raW wv n (r.load (x.chunk + 5))]) := by
 refine Fn.enter Tryz.func147 (by kernel_rfl) rfl (n := 267) rfl rfl (fun w => ?_)
 obtain ⟨hx1, hx2, hx3, hx4, hx5⟩ := hx
 have hat := cellAtD_bd (x.cap : Int) hx1 hx2 (show 0 ≤ (x.cap : Int) ∧ (x.cap : Int) ≤ 16 by omega) hx5
 refine W ?_
 refine At.drawK [tt 0, tt 1, tt 2, tt 3, tt 4, tt 5, tt 6, tt 7, tt 8, tt 9, tt 10, tt 11, tt 12, tt 13, tt 14, tt 15, ff 16, tt 17] (by kernel_rfl) (by kernel_rfl) ?_
 refine W ?_
 refine At.callVR rfl rfl rfl (.k rfl (.k rfl (.k rfl (.k rfl .nil)))) (.nil) (fun hg => d_cellAt2 (by omega) (by omega) (by omega) (by omega)) kI ?_
 refine Y ?_
 refine cM rfl rfl rfl (.k rfl (.k rfl .nil)) rfl (.h (.skip (.take (.take .nil)))) .nil (r_Load (r := r) (i := x.chunk + 5) hn hN hf) keysRa .nil ⟨.all, ?_⟩
 refine W ?_
 refine At.st1 rfl rfl sz_3 (.t rfl) (.t rfl) rfl rfl (.h U0) ⟨.all, ?_⟩
 refine W ?_
 refine At.st1 rfl rfl sz_3 (.t rfl) .c rfl rfl (.h U0) ⟨.all, ?_⟩
 refine Y ?_
 exact fT rfl (.t rfl) (⟨rfl, rfl, rfl⟩)
theorem db_Step2b {l : List Itm} {vs : List Int} (hL : l.length ≤ 400) {b ba n : Nat} {wv Vv Lv Gv Wv : Value} {x : Db} {r : Rr} (hx : x.ok) (hl : x.line = 2) (hn : r.w.length = n) (hN : n ≤ 1000000) (hf : r.few) (hw : r.mid 1152921504606846976) (hs : (r.peek (cellAtD (x.cap : Int) x.chunk x.mate x.i)) < 3) (hc : ¬ x.i + 1 < cellsD (x.cap : Int) x.mate) : FnX Tryz.prog 147 [.pointer (some ⟨b, 0, none⟩), .pointer (some ⟨ba, 0, none⟩)] ([]) ([dbB b Vv Lv Gv Wv x, raB ba wv r, raW wv n r, rowE zK 3 Vv vs, rowE iK 43 Lv l]) (fun v N => ∃ Lv2 Gv2 gs, v = .bool false ∧ gs.map (·.2) = splitR (max 2 (min (x.cap : Int) 16) / 2) [[]] (keepF (sortF l) vs (sortF l).length) ∧ N = rowE sK 40 Gv2 (gs.map (·.1)) :: dbB b Vv Lv2 Gv2 Wv (⟨x.th, x.cap, x.wd, x.ver, x.chunk, x.mate, x.after, 5, (x.i + 1), x.min, x.at_, 0, (verD (r.peek (cellAtD (x.cap : Int) x.chunk x.mate x.i))), 0, x.repl, x.e⟩ : Db) :: raB ba wv (r.load (cellAtD (x.cap : Int) x.chunk x.mate x.i)) :: raW wv n (r.load (cellAtD (x.cap : Int) x.chunk x.mate x.i)) :: seg iK 43 gs) := by
 refine FnX.enter Tryz.func147 (by kernel_rfl) rfl (n := 267) rfl rfl (fun w df hds how => ?_)
 obtain ⟨hx1, hx2, hx3, hx4, hx5⟩ := hx
 have hat := cellAtD_bd (x.cap : Int) hx1 hx2 (show 0 ≤ (x.cap : Int) ∧ (x.cap : Int) ≤ 16 by omega) hx5
 refine W ?_
 refine At.drawK [tt 0, tt 1, tt 2, tt 3, tt 4, tt 5, tt 6, tt 7, tt 8, tt 9, tt 10, tt 11, tt 12, tt 13, tt 14, tt 15, ff 16, tt 17] (by kernel_rfl) (by kernel_rfl) ?_
 refine W ?_
 refine At.callVR rfl rfl rfl (.k rfl (.k rfl (.k rfl (.k rfl .nil)))) (.nil) (fun hg => d_cellAt2 (by omega) (by omega) (by omega) (by omega)) kI ?_
 refine Y ?_
 refine cM rfl rfl rfl (.k rfl (.k rfl .nil)) rfl (.n (.skip (.take (.take .nil)))) .nil (r_Load (r := r) (i := (cellAtD (x.cap : Int) x.chunk x.mate x.i)) hn hN hf) keysRa .nil ⟨.all, ?_⟩
 refine W ?_
 refine At.callVR rfl rfl rfl (.k rfl .nil) (.nil) (fun hg => r_Version (by have := Rr.peek_mid hw (by decide) (cellAtD (x.cap : Int) x.chunk x.mate x.i); omega)) .all ?_
 refine eA rfl (R.build bt_43 (.k rfl .nil) (.cons rfl .nil) rfl) ?_
 refine W ?_
 refine At.stN rfl rfl sz_43 (.t rfl) (.t rfl) rfl rfl rfl (.n U0) ⟨.all, ?_⟩
 refine W ?_
 refine At.st1 rfl rfl sz_3 (.t rfl) .c rfl rfl (.n U0) ⟨.all, ?_⟩
 refine W ?_
 refine eA rfl (R.as (R.lss (.t rfl) .c) dT) ?_
 refine W ?_
 refine cX rfl rfl rfl (.k rfl .nil) rfl (.take (.skip (.skip (.take (.take .nil))))) .nil (db_nextB (x := (⟨x.th, x.cap, x.wd, x.ver, x.chunk, x.mate, x.after, 3, x.i, x.min, x.at_, 0, (verD (r.peek (cellAtD (x.cap : Int) x.chunk x.mate x.i))), 0, x.repl, x.e⟩ : Db)) (Lv := Lv) (l := l) (vs := vs) (by dsimp only; omega) hx4.2 (by omega) hc) Aprt.nil (fun v B hR => ⟨.all, ?_⟩); obtain ⟨Gv2, gs, rfl, hgs, rfl⟩ := hR; refine At.re (N' := _ :: _ :: (seg iK 43 gs ++ [raB ba wv (r.load (cellAtD (x.cap : Int) x.chunk x.mate x.i)), raW wv n (r.load (cellAtD (x.cap : Int) x.chunk x.mate x.i))])) rfl ?_; refine At.perm (N' := rowE sK 40 Gv2 (gs.map (·.1)) :: dbB b Vv Lv Gv2 Wv (⟨x.th, x.cap, x.wd, x.ver, x.chunk, x.mate, x.after, 5, (x.i + 1), x.min, x.at_, 0, (verD (r.peek (cellAtD (x.cap : Int) x.chunk x.mate x.i))), 0, x.repl, x.e⟩ : Db) :: raB ba wv (r.load (cellAtD (x.cap : Int) x.chunk x.mate x.i)) :: raW wv n (r.load (cellAtD (x.cap : Int) x.chunk x.mate x.i)) :: seg iK 43 gs) (List.Perm.cons _ (List.Perm.cons _ List.perm_append_comm)) ?_
 refine Z ?_
 exact At.finalX (N' := rowE sK 40 Gv2 (gs.map (·.1)) :: dbB b Vv Lv Gv2 Wv (⟨x.th, x.cap, x.wd, x.ver, x.chunk, x.mate, x.after, 5, (x.i + 1), x.min, x.at_, 0, (verD (r.peek (cellAtD (x.cap : Int) x.chunk x.mate x.i))), 0, x.repl, x.e⟩ : Db) :: raB ba wv (r.load (cellAtD (x.cap : Int) x.chunk x.mate x.i)) :: raW wv n (r.load (cellAtD (x.cap : Int) x.chunk x.mate x.i)) :: seg iK 43 gs) hds how rfl (.t rfl) (List.Sublist.refl _) (⟨Lv, Gv2, gs, rfl, hgs, rfl⟩)
theorem db_Step4a {l : List Itm} {vs : List Int} (hL : l.length ≤ 400) {b ba n : Nat} {wv Vv Lv Gv Wv : Value} {x : Db} {r : Rr} (hx : x.ok) (hl : x.line = 4) (hn : r.w.length = n) (hN : n ≤ 1000000) (hf : r.few) (hw : r.mid 1152921504606846976) (hc : x.i + 1 < cellsD (x.cap : Int) x.mate) : FnX Tryz.prog 147 [.pointer (some ⟨b, 0, none⟩), .pointer (some ⟨ba, 0, none⟩)] ([]) ([dbB b Vv Lv Gv Wv x, raB ba wv r, raW wv n r, rowE zK 3 Vv vs, rowE iK 43 Lv l]) (fun v N => ∃ Lv2, v = .bool false ∧ N = [dbB b Vv Lv2 Gv Wv (⟨x.th, x.cap, x.wd, x.ver, x.chunk, x.mate, x.after, 2, (x.i + 1), x.min, x.at_, x.xk, x.xv, (r.peek ((cellAtD (x.cap : Int) x.chunk x.mate x.i) + 2)), x.repl, x.e⟩ : Db), raB ba wv (r.load ((cellAtD (x.cap : Int) x.chunk x.mate x.i) + 2)), raW wv n (r.load ((cellAtD (x.cap : Int) x.chunk x.mate x.i) + 2)), rowE zK 3 Vv vs, rowE iK 43 Lv2 (l ++ [(⟨x.xk, x.xv, (r.peek ((cellAtD (x.cap : Int) x.chunk x.mate x.i) + 2))⟩ : Itm)])]) := by
 refine FnX.enter Tryz.func147 (by kernel_rfl) rfl (n := 267) rfl rfl (fun w df hds how => ?_)
 obtain ⟨hx1, hx2, hx3, hx4, hx5⟩ := hx
 have hat := cellAtD_bd (x.cap : Int) hx1 hx2 (show 0 ≤ (x.cap : Int) ∧ (x.cap : Int) ≤ 16 by omega) hx5
 refine W ?_
 refine At.drawK [tt 0, tt 1, tt 2, tt 3, tt 4, tt 5, tt 6, tt 7, tt 8, tt 9, tt 10, tt 11, tt 12, tt 13, tt 14, tt 15, ff 16, tt 17] (by kernel_rfl) (by kernel_rfl) ?_
 refine W ?_
 refine At.callVR rfl rfl rfl (.k rfl (.k rfl (.k rfl (.k rfl .nil)))) (.nil) (fun hg => d_cellAt2 (by omega) (by omega) (by omega) (by omega)) kI ?_
 refine Y ?_
 refine cM rfl rfl rfl (.k rfl (.k rfl .nil)) rfl (.n (.skip (.take (.take .nil)))) .nil (r_Load (r := r) (i := (cellAtD (x.cap : Int) x.chunk x.mate x.i) + 2) hn hN hf) keysRa .nil ⟨.all, ?_⟩
 refine W ?_
 refine At.st1 rfl rfl sz_3 (.t rfl) (.t rfl) rfl rfl (.n U0) ⟨.all, ?_⟩
 refine W ?_
 refine At.re (N' := [dbB b Vv Lv Gv Wv (⟨x.th, x.cap, x.wd, x.ver, x.chunk, x.mate, x.after, x.line, x.i, x.min, x.at_, x.xk, x.xv, (r.peek ((cellAtD (x.cap : Int) x.chunk x.mate x.i) + 2)), x.repl, x.e⟩ : Db), raB ba wv (r.load ((cellAtD (x.cap : Int) x.chunk x.mate x.i) + 2)), raW wv n (r.load ((cellAtD (x.cap : Int) x.chunk x.mate x.i) + 2)), rowE zK 3 Vv vs, rowE iK 43 Lv l]) rfl ?_
 refine At.drawM ([dbB b Vv Lv Gv Wv (⟨x.th, x.cap, x.wd, x.ver, x.chunk, x.mate, x.after, x.line, x.i, x.min, x.at_, x.xk, x.xv, (r.peek ((cellAtD (x.cap : Int) x.chunk x.mate x.i) + 2)), x.repl, x.e⟩ : Db)]) ([]) [tt 0, tt 1, tt 2, tt 3, tt 5, tt 6, tt 7] [tt 4, tt 8, ff 9, ff 10] [tt 11, tt 12, ff 13] (keepOf sl) (fun _ h => nomatch h) (by kernel_rfl) (by kernel_rfl) ?_
 refine V ?_
 refine At.stage kz ?_
 refine W ?_
 refine At.lit (k := iK) rfl rfl rfl Tryz.underlying40 et_43 (.k rfl .nil) (.cons (y := (⟨x.xk, x.xv, (r.peek ((cellAtD (x.cap : Int) x.chunk x.mate x.i) + 2))⟩ : Itm)) rfl .nil) rfl rfl rfl (fun v1 => ⟨kz, ?_⟩)
 refine At.app (k := iK) rfl rfl rfl Tryz.underlying40 et_43 (.t rfl) (.t rfl) (fun _ => by (exact U5)) (wS M0) (by (simp <;> omega)) (fun v2 => ⟨kz, ?_⟩)
 refine At.stage Cl.none ?_
 refine W ?_
 refine At.rowOne (v := v2) (M5) (fun h1v => ?_)
 refine At.st1 rfl rfl sz_40 (.t rfl) (.t rfl) h1v rfl (.n U1) ⟨Cl.none, ?_⟩
 refine W ?_
 refine At.weak (fun _ _ h => h) (N' := [dbB b Vv v2 Gv Wv (⟨x.th, x.cap, x.wd, x.ver, x.chunk, x.mate, x.after, x.line, x.i, x.min, x.at_, x.xk, x.xv, (r.peek ((cellAtD (x.cap : Int) x.chunk x.mate x.i) + 2)), x.repl, x.e⟩ : Db), raB ba wv (r.load ((cellAtD (x.cap : Int) x.chunk x.mate x.i) + 2)), raW wv n (r.load ((cellAtD (x.cap : Int) x.chunk x.mate x.i) + 2)), rowE zK 3 Vv vs, rowE iK 43 v2 (l ++ [(⟨x.xk, x.xv, (r.peek ((cellAtD (x.cap : Int) x.chunk x.mate x.i) + 2))⟩ : Itm)])]) (List.sublist_cons_self _ _) ?_; refine cM rfl rfl rfl (.k rfl .nil) rfl (.n (.take .nil)) .nil (db_nextA (x := (⟨x.th, x.cap, x.wd, x.ver, x.chunk, x.mate, x.after, x.line, x.i, x.min, x.at_, x.xk, x.xv, (r.peek ((cellAtD (x.cap : Int) x.chunk x.mate x.i) + 2)), x.repl, x.e⟩ : Db)) (by dsimp only; omega) hx4.2 hc) rfl .nil ⟨.all, ?_⟩
 refine Z ?_
 exact At.finalX (N' := [dbB b Vv v2 Gv Wv (⟨x.th, x.cap, x.wd, x.ver, x.chunk, x.mate, x.after, 2, (x.i + 1), x.min, x.at_, x.xk, x.xv, (r.peek ((cellAtD (x.cap : Int) x.chunk x.mate x.i) + 2)), x.repl, x.e⟩ : Db), raB ba wv (r.load ((cellAtD (x.cap : Int) x.chunk x.mate x.i) + 2)), raW wv n (r.load ((cellAtD (x.cap : Int) x.chunk x.mate x.i) + 2)), rowE zK 3 Vv vs, rowE iK 43 v2 (l ++ [(⟨x.xk, x.xv, (r.peek ((cellAtD (x.cap : Int) x.chunk x.mate x.i) + 2))⟩ : Itm)])]) hds how rfl (.t rfl) (List.Sublist.refl _) (⟨v2, rfl, rfl⟩)
theorem db_Step4b {l : List Itm} {vs : List Int} (hL : l.length ≤ 400) {b ba n : Nat} {wv Vv Lv Gv Wv : Value} {x : Db} {r : Rr} (hx : x.ok) (hl : x.line = 4) (hn : r.w.length = n) (hN : n ≤ 1000000) (hf : r.few) (hw : r.mid 1152921504606846976) (hc : ¬ x.i + 1 < cellsD (x.cap : Int) x.mate) : FnX Tryz.prog 147 [.pointer (some ⟨b, 0, none⟩), .pointer (some ⟨ba, 0, none⟩)] ([]) ([dbB b Vv Lv Gv Wv x, raB ba wv r, raW wv n r, rowE zK 3 Vv vs, rowE iK 43 Lv l]) (fun v N => ∃ Lv2 Gv2 gs, v = .bool false ∧ gs.map (·.2) = splitR (max 2 (min (x.cap : Int) 16) / 2) [[]] (keepF (sortF (l ++ [(⟨x.xk, x.xv, (r.peek ((cellAtD (x.cap : Int) x.chunk x.mate x.i) + 2))⟩ : Itm)])) vs (sortF (l ++ [(⟨x.xk, x.xv, (r.peek ((cellAtD (x.cap : Int) x.chunk x.mate x.i) + 2))⟩ : Itm)])).length) ∧ N = rowE sK 40 Gv2 (gs.map (·.1)) :: dbB b Vv Lv2 Gv2 Wv (⟨x.th, x.cap, x.wd, x.ver, x.chunk, x.mate, x.after, 5, (x.i + 1), x.min, x.at_, x.xk, x.xv, (r.peek ((cellAtD (x.cap : Int) x.chunk x.mate x.i) + 2)), x.repl, x.e⟩ : Db) :: raB ba wv (r.load ((cellAtD (x.cap : Int) x.chunk x.mate x.i) + 2)) :: raW wv n (r.load ((cellAtD (x.cap : Int) x.chunk x.mate x.i) + 2)) :: seg iK 43 gs) := by
 refine FnX.enter Tryz.func147 (by kernel_rfl) rfl (n := 267) rfl rfl (fun w df hds how => ?_)
 obtain ⟨hx1, hx2, hx3, hx4, hx5⟩ := hx
 have hat := cellAtD_bd (x.cap : Int) hx1 hx2 (show 0 ≤ (x.cap : Int) ∧ (x.cap : Int) ≤ 16 by omega) hx5
 refine W ?_
 refine At.drawK [tt 0, tt 1, tt 2, tt 3, tt 4, tt 5, tt 6, tt 7, tt 8, tt 9, tt 10, tt 11, tt 12, tt 13, tt 14, tt 15, ff 16, tt 17] (by kernel_rfl) (by kernel_rfl) ?_
 refine W ?_
 refine At.callVR rfl rfl rfl (.k rfl (.k rfl (.k rfl (.k rfl .nil)))) (.nil) (fun hg => d_cellAt2 (by omega) (by omega) (by omega) (by omega)) kI ?_
 refine Y ?_
 refine cM rfl rfl rfl (.k rfl (.k rfl .nil)) rfl (.n (.skip (.take (.take .nil)))) .nil (r_Load (r := r) (i := (cellAtD (x.cap : Int) x.chunk x.mate x.i) + 2) hn hN hf) keysRa .nil ⟨.all, ?_⟩
 refine W ?_
 refine At.st1 rfl rfl sz_3 (.t rfl) (.t rfl) rfl rfl (.n U0) ⟨.all, ?_⟩
 refine W ?_
 refine At.re (N' := [dbB b Vv Lv Gv Wv (⟨x.th, x.cap, x.wd, x.ver, x.chunk, x.mate, x.after, x.line, x.i, x.min, x.at_, x.xk, x.xv, (r.peek ((cellAtD (x.cap : Int) x.chunk x.mate x.i) + 2)), x.repl, x.e⟩ : Db), raB ba wv (r.load ((cellAtD (x.cap : Int) x.chunk x.mate x.i) + 2)), raW wv n (r.load ((cellAtD (x.cap : Int) x.chunk x.mate x.i) + 2)), rowE zK 3 Vv vs, rowE iK 43 Lv l]) rfl ?_
 refine At.drawM ([dbB b Vv Lv Gv Wv (⟨x.th, x.cap, x.wd, x.ver, x.chunk, x.mate, x.after, x.line, x.i, x.min, x.at_, x.xk, x.xv, (r.peek ((cellAtD (x.cap : Int) x.chunk x.mate x.i) + 2)), x.repl, x.e⟩ : Db)]) ([]) [tt 0, tt 1, tt 2, tt 3, tt 5, tt 6, tt 7] [tt 4, tt 8, ff 9, ff 10] [tt 11, tt 12, ff 13] (keepOf sl) (fun _ h => nomatch h) (by kernel_rfl) (by kernel_rfl) ?_
 refine V ?_
 refine At.stage kz ?_
 refine W ?_
 refine At.lit (k := iK) rfl rfl rfl Tryz.underlying40 et_43 (.k rfl .nil) (.cons (y := (⟨x.xk, x.xv, (r.peek ((cellAtD (x.cap : Int) x.chunk x.mate x.i) + 2))⟩ : Itm)) rfl .nil) rfl rfl rfl (fun v1 => ⟨kz, ?_⟩)
 refine At.app (k := iK) rfl rfl rfl Tryz.underlying40 et_43 (.t rfl) (.t rfl) (fun _ => by (exact U5)) (wS M0) (by (simp <;> omega)) (fun v2 => ⟨kz, ?_⟩)
 refine At.stage Cl.none ?_
 refine W ?_
 refine At.rowOne (v := v2) (M5) (fun h1v => ?_)
 refine At.st1 rfl rfl sz_40 (.t rfl) (.t rfl) h1v rfl (.n U1) ⟨Cl.none, ?_⟩
 refine W ?_
 refine At.weak (fun _ _ h => h) (N' := [dbB b Vv v2 Gv Wv (⟨x.th, x.cap, x.wd, x.ver, x.chunk, x.mate, x.after, x.line, x.i, x.min, x.at_, x.xk, x.xv, (r.peek ((cellAtD (x.cap : Int) x.chunk x.mate x.i) + 2)), x.repl, x.e⟩ : Db), raB ba wv (r.load ((cellAtD (x.cap : Int) x.chunk x.mate x.i) + 2)), raW wv n (r.load ((cellAtD (x.cap : Int) x.chunk x.mate x.i) + 2)), rowE zK 3 Vv vs, rowE iK 43 v2 (l ++ [(⟨x.xk, x.xv, (r.peek ((cellAtD (x.cap : Int) x.chunk x.mate x.i) + 2))⟩ : Itm)])]) (List.sublist_cons_self _ _) ?_; refine cX rfl rfl rfl (.k rfl .nil) rfl (.take (.skip (.skip (.take (.take .nil))))) .nil (db_nextB (x := (⟨x.th, x.cap, x.wd, x.ver, x.chunk, x.mate, x.after, x.line, x.i, x.min, x.at_, x.xk, x.xv, (r.peek ((cellAtD (x.cap : Int) x.chunk x.mate x.i) + 2)), x.repl, x.e⟩ : Db)) (Lv := v2) (l := (l ++ [(⟨x.xk, x.xv, (r.peek ((cellAtD (x.cap : Int) x.chunk x.mate x.i) + 2))⟩ : Itm)])) (vs := vs) (by dsimp only; omega) hx4.2 (by (simp; omega)) hc) Aprt.nil (fun v B hR => ⟨.all, ?_⟩); obtain ⟨Gv2, gs, rfl, hgs, rfl⟩ := hR; refine At.re (N' := _ :: _ :: (seg iK 43 gs ++ [raB ba wv (r.load ((cellAtD (x.cap : Int) x.chunk x.mate x.i) + 2)), raW wv n (r.load ((cellAtD (x.cap : Int) x.chunk x.mate x.i) + 2))])) rfl ?_; refine At.perm (N' := rowE sK 40 Gv2 (gs.map (·.1)) :: dbB b Vv v2 Gv2 Wv (⟨x.th, x.cap, x.wd, x.ver, x.chunk, x.mate, x.after, 5, (x.i + 1), x.min, x.at_, x.xk, x.xv, (r.peek ((cellAtD (x.cap : Int) x.chunk x.mate x.i) + 2)), x.repl, x.e⟩ : Db) :: raB ba wv (r.load ((cellAtD (x.cap : Int) x.chunk x.mate x.i) + 2)) :: raW wv n (r.load ((cellAtD (x.cap : Int) x.chunk x.mate x.i) + 2)) :: seg iK 43 gs) (List.Perm.cons _ (List.Perm.cons _ List.perm_append_comm)) ?_
 refine Z ?_
 exact At.finalX (N' := rowE sK 40 Gv2 (gs.map (·.1)) :: dbB b Vv v2 Gv2 Wv (⟨x.th, x.cap, x.wd, x.ver, x.chunk, x.mate, x.after, 5, (x.i + 1), x.min, x.at_, x.xk, x.xv, (r.peek ((cellAtD (x.cap : Int) x.chunk x.mate x.i) + 2)), x.repl, x.e⟩ : Db) :: raB ba wv (r.load ((cellAtD (x.cap : Int) x.chunk x.mate x.i) + 2)) :: raW wv n (r.load ((cellAtD (x.cap : Int) x.chunk x.mate x.i) + 2)) :: seg iK 43 gs) hds how rfl (.t rfl) (List.Sublist.refl _) (⟨v2, Gv2, gs, rfl, hgs, rfl⟩)
end Go.Proofs.YtbolanigdkgbdaaGreat
