/- LGroupTells -/
import Derived.Test.YtejpanipdjknjaaL9
import Derived.Test.YtejpanipdjknjaaG9
import Derived.Test.YtejpanipdjknjaaG4
namespace Go.Proofs.Ytejpanipdjknjaa
open Go Go.RowKit
set_option maxRecDepth 10000
set_option linter.unusedVariables false



theorem c_SameChunkT {x y : Chk} {l k : List Cel} (h : (hd x, l) = (hd y, k)) : Fn Try.prog 25 [.agg (chK.enc x).toArray, .agg (chK.enc y).toArray] [rdE cellK x.u.1 l, rdE cellK y.u.1 k] [] (IsV (.bool true)) := by
  obtain ⟨h1, rfl⟩ := Prod.mk.inj h
  simp only [hd, List.cons.injEq, and_true] at h1
  have := c_SameChunk (a0 := x.a0) (a1 := x.a1) (a2 := x.a2) (a3 := x.a3) (a4 := x.a4) (a5 := x.a5) (a6 := x.a6) (a7 := x.a7) (d0 := y.a0) (d1 := y.a1) (d2 := y.a2) (d3 := y.a3) (d4 := y.a4) (d5 := y.a5) (d6 := y.a6) (d7 := y.a7) (u := x.u.1) (v := y.u.1) (l := l) (k := l)
  rw [decide_eq_true ⟨h1, rfl⟩] at this
  exact this
theorem grow {S N H T : Hp} {r : Ent} : ∀ e, e ∈ S ++ (N ++ H) → e ∈ S ++ ((r :: (N ++ T)) ++ H) := fun e h => by
  simp only [List.mem_append, List.mem_cons, List.cons_append] at *
  rcases h with h | h | h
  · exact .inl h
  · exact .inr (.inr (.inl (.inl h)))
  · exact .inr (.inr (.inr h))
theorem inGrow {X N T : Hp} {r : Ent} (h : X.Sublist N) : X.Sublist (r :: (N ++ T)) := (h.trans (List.sublist_append_left _ _)).cons _
theorem mins_same {G : List (List Itm)} {gs ks : List (SV × List Itm)} {least : Int} (hgs : gs.map (·.2) = G) (hks : ks.map (·.2) = G) : minsF least (asN gs) (asN gs).length = minsF least (asN ks) (asN ks).length := by
  rw [asN_len, asN_len, gsLen hgs, gsLen hks]
  exact minsF_eq least (by rw [show (asN gs).map (·.2) = gs.map (·.2) from asN_snd gs, show (asN ks).map (·.2) = ks.map (·.2) from asN_snd ks, hgs, hks]) _
theorem chunks_len {cap : Nat} {at_ after least : Int} {G : List (List Itm)} : (chunksF cap at_ after least G).length ≤ G.length := by
  unfold chunksF
  split <;> simp
theorem l_GroupTells {u : Value} {l : List Itm} {cells a b c d at_ after least : Int} (hat : 0 ≤ at_ ∧ at_ ≤ 65535) (haf : 0 ≤ after ∧ after ≤ 65535) : Fn Try.prog 3 [u, .int .i64 cells, .agg #[.int .i64 a, .int .i64 b, .int .i64 c, .int .i64 d], .int .u16 at_, .int .u16 after, .int .i64 least] [rdE iK u l] [] (IsV (.bool true)) := by
  refine Fn.enter Try.func3 (by kernel_rfl) rfl (n := 106) rfl rfl (fun w => ?_)
  refine At.len (v := u) (by (exact rS M0)) (fun hl1 => ?_)
  have hsl := sortF_length l
  refine At.seq ?_
  refine At.plain [(false, 0), (false, 1)] rfl ?_
  refine At.box rfl rfl rfl (.t rfl) (fun b1 hb1 => ⟨.all, ?_⟩)
  refine At.e rfl rfl rfl rfl .all (R.assign .c) ?_
  refine At.nil ?_
  refine At.tN ?_
  refine At.seq ?_
  refine At.seq ?_
  refine At.plain [(false, 0), (false, 1)] rfl ?_
  refine At.callVR rfl rfl rfl .nil (by (exact .nil)) (fun hg => c_known9) .all ?_
  refine At.e rfl rfl rfl rfl .all (R.not (.t rfl)) ?_
  refine At.nil ?_
  refine At.tN ?_
  refine At.condF (.t rfl) ?_
  refine At.skip ?_
  refine At.tN ?_
  refine At.seq ?_
  refine At.seq ?_
  refine At.plain [(false, 0), (false, 1), (false, 2), (false, 3), (false, 4), (false, 5), (false, 6), (false, 7)] rfl ?_
  refine At.e rfl rfl rfl rfl .all (R.move (.t rfl)) ?_
  refine At.e rfl rfl rfl rfl .all (R.lenRd Try.underlying22 (.t rfl) (by exact rS M0)) ?_
  refine At.e rfl rfl rfl rfl .all (R.gtr (.t rfl) .c) ?_
  refine At.e rfl rfl rfl rfl .all (R.move (.t rfl)) ?_
  refine At.e rfl rfl rfl rfl .all (R.loadAgg (vs := [_, _, _, _]) Try.underlying24 rfl sz_24 (by exact .t rfl) (by exact csS M1 ⟨rfl, rfl, rfl, rfl, trivial⟩)) ?_
  refine At.callVR rfl rfl rfl (.cons (by exact .s rfl) .nil) (by (exact .nil)) (fun hg => c_IsConf) .all ?_
  refine At.e rfl rfl rfl rfl .all (R.neq (by exact .s rfl) .c) ?_
  refine At.e rfl rfl rfl rfl .all (R.pickOr (.t rfl) rfl (by (intro hg h; rw [h]; rfl))) ?_
  refine At.nil ?_
  refine At.tN ?_
  refine At.cond (.t rfl) (fun c2 => ?_) (fun c2 => ?_)
  · skip
    refine At.seq ?_
    refine At.plain [(false, 0)] rfl ?_
    refine At.e rfl rfl rfl rfl .all (R.assign .c) ?_
    refine At.nil ?_
    refine At.tN ?_
    refine At.ret ?_
    refine At.tR ?_
    exact At.final rfl (.t rfl) (List.nil_sublist _) (⟨congrArg Value.bool (by rfl), rfl, rfl⟩)
  · have hq : l.length ≤ 40 ∧ isConfF a b c d = 0 := (by simp at c2; omega); obtain ⟨hq1, hq2⟩ := hq; have hz := isConf_zero hq2; obtain ⟨cap, rfl⟩ : ∃ cap : Nat, b = cap := ⟨b.toNat, by omega⟩
    refine At.skip ?_
    refine At.tN ?_
    refine At.seq ?_
    refine At.plain [(false, 0), (false, 1), (false, 2)] rfl ?_
    refine At.e rfl rfl rfl rfl .all (R.move (.t rfl)) ?_
    refine At.callRF rfl rfl rfl (.cons (.t rfl) .nil) (by (exact .cons (by (exact rS M0)) .nil)) (c_rSort (by omega)) (fun v1 => ⟨.all, ?_⟩)
    refine At.e rfl rfl rfl rfl .all (R.assign (.t rfl)) ?_
    refine At.nil ?_
    refine At.tN ?_
    refine At.seq ?_
    refine At.plain [(false, 0), (false, 1), (false, 2), (false, 3), (false, 4), (false, 5), (false, 6), (false, 7)] rfl ?_
    refine At.e rfl rfl rfl rfl .all (R.move (.t rfl)) ?_
    refine At.e rfl rfl rfl rfl .all (R.move (.t rfl)) ?_
    refine At.callRG rfl rfl rfl (.cons (.t rfl) (.cons (.t rfl) .nil)) (by (exact .cons (by (exact wS M1)) .nil)) (c_Split (l := sortF l) (by omega)) (fun vg gs hgs => ⟨.all, ?_⟩); rw [split_is] at hgs; have hgl := gsLen hgs; have hml : (gs.map (·.1)).length = gs.length := List.length_map _; have hgn := grp_len (h := (max 2 (min cells 16) / 2)) (l := l)
    refine At.e rfl rfl rfl rfl .all (R.move (.t rfl)) ?_
    refine At.e rfl rfl rfl rfl .all (R.move (.t rfl)) ?_
    refine At.callRG rfl rfl rfl (.cons (.t rfl) (.cons (.t rfl) .nil)) (by (exact .cons (by (exact wS M2)) .nil)) (c_rSplit (l := sortF l) (by omega)) (fun vk ks hks => ⟨.all, ?_⟩); replace hks : ks.map (·.2) = grpF (max 2 (min cells 16) / 2) l := hks; have hkl : ks.length = (grpF (max 2 (min cells 16) / 2) l).length := gsLen hks; have hnl : (ks.map (·.1)).length = ks.length := List.length_map _; refine At.re (N' := rowE sK 22 vk (ks.map (·.1)) :: rowE sK 22 vg (gs.map (·.1)) :: rowE iK 43 v1 (sortF l) :: .blk b1 (.cells #[.int .i64 a, .int .i64 cap, .int .i64 c, .int .i64 d] 24) :: (seg iK 43 gs ++ seg iK 43 ks)) rfl ?_
    refine At.e rfl rfl rfl rfl .all (R.assign (.t rfl)) ?_
    refine At.e rfl rfl rfl rfl .all (R.assign (.t rfl)) ?_
    refine At.nil ?_
    refine At.tN ?_
    refine At.seq ?_
    refine At.seq ?_
    refine At.plain [(false, 0), (false, 1), (false, 2), (false, 3), (false, 4), (false, 5), (false, 6), (false, 7), (false, 8), (false, 9), (false, 10), (false, 11), (false, 12), (false, 13), (false, 14)] rfl ?_
    refine At.e rfl rfl rfl rfl .all (R.move (.t rfl)) ?_
    refine At.e rfl rfl rfl rfl .all (R.lenRd Try.underlying29 (.t rfl) (by exact wS M2)) ?_
    refine At.e rfl rfl rfl rfl .all (R.move (.t rfl)) ?_
    refine At.e rfl rfl rfl rfl .all (R.lenRd Try.underlying29 (.t rfl) (by exact wS M1)) ?_
    refine At.e rfl rfl rfl rfl .all (R.as (R.neq (.t rfl) (.t rfl)) (fun _ => congrArg Value.bool (congrArg Bool.not (decide_eq_true (by omega))))) ?_
    refine At.e rfl rfl rfl rfl .all (R.move (.t rfl)) ?_
    refine At.e rfl rfl rfl rfl .all (R.move (by exact .t rfl)) ?_
    refine At.e rfl rfl rfl rfl .all (R.move (by exact .t rfl)) ?_
    refine At.callRF rfl rfl rfl (.cons (.t rfl) (.cons (.t rfl) .nil)) (Rds.ofSeg (Eo := 0) (E := 0) (by (exact wS M2)) (segAll (E := 43) (by (apply List.Sublist.cons; apply List.Sublist.cons; apply List.Sublist.cons; apply List.Sublist.cons; exact List.sublist_append_left _ _)))) (c_Mins (gs := asN gs) (by rw [asN_len]; omega)) (fun vm => ⟨.all, ?_⟩)
    refine At.e rfl rfl rfl rfl .all (R.move (by exact .t rfl)) ?_
    refine At.e rfl rfl rfl rfl .all (R.move (by exact .t rfl)) ?_
    refine At.callRF rfl rfl rfl (.cons (.t rfl) (.cons (.t rfl) .nil)) (Rds.ofSeg (Eo := 0) (E := 0) (by (exact wS M2)) (segAll (E := 43) (by (apply List.Sublist.cons; apply List.Sublist.cons; apply List.Sublist.cons; apply List.Sublist.cons; apply List.Sublist.cons; exact List.sublist_append_right _ _)))) (c_rMins (gs := asN ks) (by rw [asN_len]; omega)) (fun vn => ⟨.all, ?_⟩)
    refine At.callVR rfl rfl rfl (.cons (by exact .t rfl) (.cons (by exact .t rfl) .nil)) (by (exact .cons (by (exact wS M2)) (.cons (by (exact wS M1)) .nil))) (fun hg => c_SameIntsT (mins_same hgs hks)) .all ?_
    refine At.e rfl rfl rfl rfl .all (R.not (by exact .t rfl)) ?_
    refine At.e rfl rfl rfl rfl .all (R.pickF (.t rfl) (.t rfl)) ?_
    refine At.nil ?_
    refine At.tN ?_
    refine At.condF (.t rfl) ?_
    refine At.skip ?_
    refine At.tN ?_
    refine At.seq ?_
    refine At.seq ?_
    refine At.plain [(false, 0)] rfl ?_
    refine At.e rfl rfl rfl rfl .all (R.assign .c) ?_
    refine At.nil ?_
    refine At.tN ?_
    refine At.block ?_
    refine At.loop1 (fun (i : Nat) => i ≤ gs.length) (fun (i : Nat) => gs.length - i) (fun (i : Nat) => [(3, true, .int .u16 at_), (4, true, .int .u16 after), (5, true, .int .i64 least), (8, true, .pointer (some ⟨b1, 0, none⟩)), (14, true, vg), (15, true, vk), (16, true, .int .i64 i)]) (fun (i : Nat) => rowE sK 22 vk (ks.map (·.1)) :: rowE sK 22 vg (gs.map (·.1)) :: .blk b1 (.cells #[.int .i64 a, .int .i64 cap, .int .i64 c, .int .i64 d] 24) :: (seg iK 43 gs ++ seg iK 43 ks)) (fun (i : Nat) => []) (0) (Nat.zero_le _) (.cons rfl (.cons rfl (.cons rfl (.cons rfl (.cons rfl (.cons rfl (.cons rfl .nil))))))) (by (apply List.Sublist.cons; apply List.Sublist.cons; apply List.Sublist.cons_cons; apply List.Sublist.cons_cons; apply List.Sublist.cons; exact List.Sublist.refl _)) rfl (fun i hi => ?_)
    refine At.seq ?_
    refine At.seq ?_
    refine At.plain [(false, 0), (false, 1), (false, 2), (false, 3)] rfl ?_
    refine At.e rfl rfl rfl rfl .all (R.move (.t rfl)) ?_
    refine At.e rfl rfl rfl rfl .all (R.move (.t rfl)) ?_
    refine At.e rfl rfl rfl rfl .all (R.lenRd Try.underlying29 (.t rfl) (by exact wS M2)) ?_
    refine At.e rfl rfl rfl rfl .all (R.lss (.t rfl) (.t rfl)) ?_
    refine At.nil ?_
    refine At.tN ?_
    refine At.condD (.t rfl) (fun c4 => ?_) (fun c4 => ?_)
    · have heq : (gE gs (i : Int)).2 = (gE ks (i : Int)).2 := (by rw [gsAt hgs, gsAt hks])
      refine At.skip ?_
      refine At.tN ?_
      refine At.seq ?_
      refine At.block ?_
      refine At.seq ?_
      refine At.drawK [(true, 0), (true, 1), (true, 2), (true, 3), (true, 4), (true, 5), (true, 6), (true, 7), (false, 8), (true, 9)] (by kernel_rfl) (by kernel_rfl) ?_
      refine At.s rfl rfl rfl rfl (Cl.kept fun _ h => h) (R.move (.t rfl)) ?_
      refine At.s rfl rfl rfl rfl (Cl.kept fun _ h => h) (R.move (.t rfl)) ?_
      refine At.s rfl rfl rfl rfl (Cl.kept fun _ h => h) (R.indexRd Try.underlying29 sz_22 (.t rfl) (by exact wK M2) (.t rfl) (fun hg => (by omega))) ?_
      refine At.s rfl rfl rfl rfl (Cl.kept fun _ h => h) (R.loadRd Try.underlying22 rfl (.t rfl) (by exact wK M2) (fun hg => by exact segGet (by omega))) ?_
      refine At.s rfl rfl rfl rfl (Cl.kept fun _ h => h) (R.move (.t rfl)) ?_
      refine At.s rfl rfl rfl rfl (Cl.kept fun _ h => h) (R.move (.t rfl)) ?_
      refine At.s rfl rfl rfl rfl (Cl.kept fun _ h => h) (R.indexRd Try.underlying29 sz_22 (.t rfl) (by exact wK M1) (.t rfl) (fun hg => (by omega))) ?_
      refine At.s rfl rfl rfl rfl (Cl.kept fun _ h => h) (R.loadRd Try.underlying22 rfl (.t rfl) (by exact wK M1) (fun hg => by exact segGet (by omega))) ?_
      refine At.callVR rfl rfl rfl (.cons (.t rfl) (.cons (.t rfl) .nil)) (.cons (segST (k := iK) (gs := gs) (by (apply List.Sublist.cons; apply List.Sublist.cons; apply List.Sublist.cons; exact List.sublist_append_left _ _)) (by omega)) (.cons (segST (k := iK) (gs := ks) (by (apply List.Sublist.cons; apply List.Sublist.cons; apply List.Sublist.cons; exact List.sublist_append_right _ _)) (by omega)) .nil)) (fun hg => c_SameItemsT heq) (Cl.kept fun _ h => h) ?_
      refine At.s rfl rfl rfl rfl (Cl.kept (by exact fun _ h => h)) (R.not (.t rfl)) ?_
      refine At.nil ?_
      refine At.tN ?_
      refine At.condF (.t rfl) ?_
      refine At.skip ?_
      refine At.bN ?_
      refine At.tN ?_
      refine At.plain [(false, 0), (false, 1), (false, 2)] rfl ?_
      refine At.e rfl rfl rfl rfl .all (R.move (.t rfl)) ?_
      refine At.e rfl rfl rfl rfl .all (R.addI (.t rfl) .c (fun hg => by omega)) ?_
      refine At.e rfl rfl rfl rfl .all (R.assign (.t rfl)) ?_
      refine At.nil ?_
      refine At.tN ?_
      exact At.again1 (i + 1) (by omega) (by omega) (.cons rfl (.cons rfl (.cons rfl (.cons rfl (.cons rfl (.cons rfl (.cons rfl .nil))))))) (by (exact List.Sublist.refl _)) rfl
    · skip
      refine At.exit ?_
      refine At.tE ?_
      refine At.tE ?_
      refine At.bE ?_
      refine At.tN ?_
      refine At.seq ?_
      refine At.drawK [(true, 0), (true, 1), (true, 2), (true, 3), (true, 4), (true, 5), (true, 6), (true, 8), (true, 9), (true, 10), (true, 11), (true, 12), (true, 13), (true, 14), (false, 7), (false, 15), (true, 16), (true, 17)] (by kernel_rfl) (by kernel_rfl) ?_
      refine At.s rfl rfl rfl rfl (Cl.kept fun _ h => h) (R.loadAgg (vs := [_, _, _, _]) Try.underlying24 rfl sz_24 (.t rfl) (by exact csK M3 ⟨rfl, rfl, rfl, rfl, trivial⟩)) ?_
      refine At.s rfl rfl rfl rfl (Cl.kept fun _ h => h) (R.move (.t rfl)) ?_
      refine At.s rfl rfl rfl rfl (Cl.kept fun _ h => h) (R.as (R.conv Try.underlying25 Try.underlying3 (.t rfl)) (fun _ => congrArg (Value.int .i64) (IntWalk.i64_in _ (by omega)))) ?_
      refine At.s rfl rfl rfl rfl (Cl.kept fun _ h => h) (R.move (.t rfl)) ?_
      refine At.s rfl rfl rfl rfl (Cl.kept fun _ h => h) (R.as (R.conv Try.underlying25 Try.underlying3 (.t rfl)) (fun _ => congrArg (Value.int .i64) (IntWalk.i64_in _ (by omega)))) ?_
      refine At.s rfl rfl rfl rfl (Cl.kept fun _ h => h) (R.move (.t rfl)) ?_
      refine At.s rfl rfl rfl rfl (Cl.kept fun _ h => h) (R.move (.t rfl)) ?_
      refine At.s rfl rfl rfl rfl (Cl.kept fun _ h => h) (R.loadAgg (vs := [_, _, _, _]) Try.underlying24 rfl sz_24 (.t rfl) (by exact csK M3 ⟨rfl, rfl, rfl, rfl, trivial⟩)) ?_
      refine At.s rfl rfl rfl rfl (Cl.kept fun _ h => h) (R.move (.t rfl)) ?_
      refine At.s rfl rfl rfl rfl (Cl.kept fun _ h => h) (R.as (R.conv Try.underlying25 Try.underlying3 (.t rfl)) (fun _ => congrArg (Value.int .i64) (IntWalk.i64_in _ (by omega)))) ?_
      refine At.s rfl rfl rfl rfl (Cl.kept fun _ h => h) (R.move (.t rfl)) ?_
      refine At.s rfl rfl rfl rfl (Cl.kept fun _ h => h) (R.as (R.conv Try.underlying25 Try.underlying3 (.t rfl)) (fun _ => congrArg (Value.int .i64) (IntWalk.i64_in _ (by omega)))) ?_
      refine At.s rfl rfl rfl rfl (Cl.kept fun _ h => h) (R.move (.t rfl)) ?_
      refine At.s rfl rfl rfl rfl (Cl.kept fun _ h => h) (R.move (.t rfl)) ?_
      refine At.callRC rfl rfl rfl (.cons (.t rfl) (.cons (.t rfl) (.cons (.t rfl) (.cons (.t rfl) (.cons (.t rfl) .nil))))) (Rds.ofSeg (Eo := 0) (E := 0) (by (exact wS M2)) (segAll (E := 43) (by exact (by (apply List.Sublist.cons; apply List.Sublist.cons; apply List.Sublist.cons; exact List.sublist_append_left _ _))))) (c_Chunks (gs := asN gs) (cap := cap) (by rw [asN_len]; omega) (by omega) (by omega) (by omega)) (fun vc cs hcs => ⟨(Cl.kept (by exact grow)), ?_⟩); rw [asN_snd, hgs] at hcs
      refine At.callRC rfl rfl rfl (.cons (.t rfl) (.cons (.t rfl) (.cons (.t rfl) (.cons (.t rfl) (.cons (.t rfl) .nil))))) (Rds.ofSeg (Eo := 0) (E := 0) (by (exact wS M2)) (segAll (E := 43) (by (refine inGrow ?_; exact (by (apply List.Sublist.cons; apply List.Sublist.cons; apply List.Sublist.cons; exact List.sublist_append_right _ _)))))) (c_rChunks (gs := asN ks) (cap := cap) (by rw [asN_len]; omega) (by omega) (by omega) (by omega)) (fun ve es hes => ⟨(Cl.kept (by exact fun e h => grow e (grow e h))), ?_⟩); rw [asN_snd, hks] at hes; have hcl := csLen hcs; have hel := csLen hes; have hcm : (cs.map (·.1)).length = cs.length := List.length_map _; have hem : (es.map (·.1)).length = es.length := List.length_map _; have hcx := chunks_len (cap := cap) (at_ := at_) (after := after) (least := least) (G := grpF (max 2 (min cells 16) / 2) l)
      refine At.s rfl rfl rfl rfl (Cl.kept (by exact fun e h => grow e (grow e h))) (R.assign (.t rfl)) ?_
      refine At.s rfl rfl rfl rfl (Cl.kept (by exact fun e h => grow e (grow e h))) (R.assign (.t rfl)) ?_
      refine At.nil ?_
      refine At.tN ?_
      refine At.seq ?_
      refine At.seq ?_
      refine At.plain [(false, 0), (false, 1), (false, 2), (false, 3), (false, 4)] rfl ?_
      refine At.e rfl rfl rfl rfl .all (R.move (.t rfl)) ?_
      refine At.e rfl rfl rfl rfl .all (R.lenRd Try.underlying35 (.t rfl) (by exact wS M2)) ?_
      refine At.e rfl rfl rfl rfl .all (R.move (.t rfl)) ?_
      refine At.e rfl rfl rfl rfl .all (R.lenRd Try.underlying35 (.t rfl) (by exact wS M1)) ?_
      refine At.e rfl rfl rfl rfl .all (R.as (R.neq (.t rfl) (.t rfl)) (fun _ => congrArg Value.bool (congrArg Bool.not (decide_eq_true (by omega))))) ?_
      refine At.nil ?_
      refine At.tN ?_
      refine At.condF (.t rfl) ?_
      refine At.skip ?_
      refine At.tN ?_
      refine At.seq ?_
      refine At.seq ?_
      refine At.plain [(false, 0)] rfl ?_
      refine At.e rfl rfl rfl rfl .all (R.assign .c) ?_
      refine At.nil ?_
      refine At.tN ?_
      refine At.block ?_
      refine At.perm (List.Perm.swap _ _ _) ?_; refine At.weak (fun _ _ h => h) (N' := rowE chK 40 vc (cs.map (·.1)) :: rowE chK 40 ve (es.map (·.1)) :: (csg 61 cs ++ csg 61 es)) (List.Sublist.cons_cons _ (List.Sublist.cons_cons _ ((List.sublist_append_right _ _).append (List.Sublist.refl _)))) ?_
      refine At.loop1 (fun (j : Nat) => j ≤ cs.length) (fun (j : Nat) => cs.length - j) (fun (j : Nat) => [(17, true, vc), (18, true, ve), (19, true, .int .i64 j)]) (fun (j : Nat) => rowE chK 40 vc (cs.map (·.1)) :: rowE chK 40 ve (es.map (·.1)) :: (csg 61 cs ++ csg 61 es)) (fun (j : Nat) => []) (0) (Nat.zero_le _) (.cons rfl (.cons rfl (.cons rfl .nil))) (by (exact List.Sublist.refl _)) rfl (fun j hi => ?_)
      refine At.seq ?_
      refine At.seq ?_
      refine At.plain [(false, 0), (false, 1), (false, 2), (false, 3)] rfl ?_
      refine At.e rfl rfl rfl rfl .all (R.move (.t rfl)) ?_
      refine At.e rfl rfl rfl rfl .all (R.move (.t rfl)) ?_
      refine At.e rfl rfl rfl rfl .all (R.lenRd Try.underlying35 (.t rfl) (by exact wS M1)) ?_
      refine At.e rfl rfl rfl rfl .all (R.lss (.t rfl) (.t rfl)) ?_
      refine At.nil ?_
      refine At.tN ?_
      refine At.condD (.t rfl) (fun c7 => ?_) (fun c7 => ?_)
      · have hq : (hd (gE (cs.map (·.1)) (j : Int)), (gE cs (j : Int)).2) = (hd (gE (es.map (·.1)) (j : Int)), (gE es (j : Int)).2) := (csAt hcs (by omega)).trans (csAt hes (by omega)).symm
        refine At.skip ?_
        refine At.tN ?_
        refine At.seq ?_
        refine At.block ?_
        refine At.seq ?_
        refine At.drawK [(true, 0), (true, 1), (true, 2), (true, 3), (true, 4), (true, 5), (true, 6), (true, 7), (false, 8), (true, 9)] (by kernel_rfl) (by kernel_rfl) ?_
        refine At.s rfl rfl rfl rfl (Cl.kept fun _ h => h) (R.move (.t rfl)) ?_
        refine At.s rfl rfl rfl rfl (Cl.kept fun _ h => h) (R.move (.t rfl)) ?_
        refine At.s rfl rfl rfl rfl (Cl.kept fun _ h => h) (R.indexRd Try.underlying35 sz_40 (.t rfl) (by exact wK M1) (.t rfl) (fun hg => (by omega))) ?_
        refine At.s rfl rfl rfl rfl (Cl.kept fun _ h => h) (R.loadRdAgg (us := chK.enc _) Try.underlying40 rfl sz_40 (.t rfl) (by exact wK M1) (fun hg => (by omega)) (fun hg => by exact Ek.getA (by omega))) ?_
        refine At.s rfl rfl rfl rfl (Cl.kept fun _ h => h) (R.move (.t rfl)) ?_
        refine At.s rfl rfl rfl rfl (Cl.kept fun _ h => h) (R.move (.t rfl)) ?_
        refine At.s rfl rfl rfl rfl (Cl.kept fun _ h => h) (R.indexRd Try.underlying35 sz_40 (.t rfl) (by exact wK M2) (.t rfl) (fun hg => (by omega))) ?_
        refine At.s rfl rfl rfl rfl (Cl.kept fun _ h => h) (R.loadRdAgg (us := chK.enc _) Try.underlying40 rfl sz_40 (.t rfl) (by exact wK M2) (fun hg => (by omega)) (fun hg => by exact Ek.getA (by omega))) ?_
        refine At.callVR rfl rfl rfl (.cons (.t rfl) (.cons (.t rfl) .nil)) (.cons (csgST (cs := cs) (by (apply List.Sublist.cons; apply List.Sublist.cons; exact List.sublist_append_left _ _)) (by omega)) (.cons (csgST (cs := es) (by (apply List.Sublist.cons; apply List.Sublist.cons; exact List.sublist_append_right _ _)) (by omega)) .nil)) (fun hg => c_SameChunkT hq) (Cl.kept fun _ h => h) ?_
        refine At.s rfl rfl rfl rfl (Cl.kept (by exact fun _ h => h)) (R.not (.t rfl)) ?_
        refine At.nil ?_
        refine At.tN ?_
        refine At.condF (.t rfl) ?_
        refine At.skip ?_
        refine At.bN ?_
        refine At.tN ?_
        refine At.plain [(false, 0), (false, 1), (false, 2)] rfl ?_
        refine At.e rfl rfl rfl rfl .all (R.move (.t rfl)) ?_
        refine At.e rfl rfl rfl rfl .all (R.addI (.t rfl) .c (fun hg => by omega)) ?_
        refine At.e rfl rfl rfl rfl .all (R.assign (.t rfl)) ?_
        refine At.nil ?_
        refine At.tN ?_
        exact At.again1 (j + 1) (by omega) (by omega) (.cons rfl (.cons rfl (.cons rfl .nil))) (by (exact List.Sublist.refl _)) rfl
      · skip
        refine At.exit ?_
        refine At.tE ?_
        refine At.tE ?_
        refine At.bE ?_
        refine At.tN ?_
        refine At.seq ?_
        refine At.plain [(false, 0)] rfl ?_
        refine At.e rfl rfl rfl rfl .all (R.assign .c) ?_
        refine At.nil ?_
        refine At.tN ?_
        refine At.ret ?_
        exact At.final rfl (.t rfl) (List.nil_sublist _) (⟨congrArg Value.bool (by rfl), rfl, rfl⟩)

end Go.Proofs.Ytejpanipdjknjaa
