/- LGroupChunks -/
import Derived.Test.YtejpanipdjknjaaL9
import Derived.Test.YtejpanipdjknjaaG5
namespace Go.Proofs.Ytejpanipdjknjaa
open Go Go.RowKit
set_option maxRecDepth 10000
set_option linter.unusedVariables false
theorem fo_40_4 : fieldOff? Try.prog 40 4 = some 4 := by kernel_rfl
theorem fo_40_5 : fieldOff? Try.prog 40 5 = some 5 := by kernel_rfl
theorem fo_40_6 : fieldOff? Try.prog 40 6 = some 6 := by kernel_rfl
theorem fo_40_7 : fieldOff? Try.prog 40 7 = some 7 := by kernel_rfl


theorem c_MarkedF {a : Int} (h0 : 0 ≤ a) (h1 : a ≤ 9223372036854775807) (h2 : a % 2 = 0) : Fn Try.prog 30 [.int .i64 a] [] [] (IsV (.bool false)) := by
  have := c_Marked (a := a) h0 h1
  rwa [decide_eq_false (by omega)] at this
theorem c_rItemsT {x : Chk} {l : List Cel} (hL : l.length ≤ 1000) (hw : ∀ y ∈ l, y.state ≤ 9223372036854775807) : Fn Try.prog 31 [.agg (chK.enc x).toArray] [rdE cellK x.u.1 l] [] (IsR iK 43 (itemsF l)) :=
  c_rItems (a0 := x.a0) (a1 := x.a1) (a2 := x.a2) (a3 := x.a3) (a4 := x.a4) (a5 := x.a5) (a6 := x.a6) (a7 := x.a7) (u := x.u.1) (l := l) hL hw
theorem cells_le {cap k : Nat} {g : List Itm} : ∀ y ∈ cellsP cap g k, y.state ≤ 9223372036854775807 := fun y hy => by
  unfold cellsP at hy
  rcases List.mem_append.1 hy with h | h
  · obtain ⟨x, _, rfl⟩ := List.mem_map.1 h
    show min (max x.ver 0) 16777212 + 3 ≤ _
    omega
  · rw [List.mem_replicate] at h; rw [h.2]; decide
theorem grp_le12 {h : Int} {l : List Itm} {gs : List (SV × List Itm)} {i : Nat} (hgs : gs.map (·.2) = grpF h l) (hl : l.length ≤ 12) : (gE gs (i : Int)).2.length ≤ 12 := by
  rw [gsAt hgs]
  rcases Nat.lt_or_ge i (grpF h l).length with h1 | h1
  · have := grp_bd (gE_in h1); omega
  · unfold gE; rw [Int.toNat_natCast, List.getD_eq_getElem?_getD, List.getElem?_eq_none h1]; exact Nat.zero_le _
theorem chk_facts {h : Int} {l : List Itm} {gs : List (SV × List Itm)} {cs : List (Chk × List Cel)} {at_ after : Int} (hgs : gs.map (·.2) = grpF h l) (hcs : cs.map (fun x => (hd x.1, x.2)) = chunksF 16 at_ after 0 (grpF h l)) (hl : l.length ≤ 12) :
    cs.length = gs.length ∧ ∀ i : Nat, i < gs.length → (gE (cs.map (fun x : Chk × List Cel => x.1)) (i : Int)).a0 = at_ + (i : Int) * 55 ∧ (gE (cs.map (fun x : Chk × List Cel => x.1)) (i : Int)).a2 = ((gE gs (i : Int)).2.length : Int) ∧
      (gE (cs.map (fun x : Chk × List Cel => x.1)) (i : Int)).a3 = 2 * min (max (if i + 1 = gs.length then after else at_ + (i : Int) * 55 + 55) 0) 1073741824 ∧ (gE (cs.map (fun x : Chk × List Cel => x.1)) (i : Int)).a4 = 0 ∧ (gE (cs.map (fun x : Chk × List Cel => x.1)) (i : Int)).a5 = 0 ∧
      (gE (cs.map (fun x : Chk × List Cel => x.1)) (i : Int)).a6 = 0 ∧ (gE (cs.map (fun x : Chk × List Cel => x.1)) (i : Int)).a7 = 0 ∧ (gE cs (i : Int)).2 = cellsP 16 (gE gs (i : Int)).2 (gE gs (i : Int)).2.length := by
  have hgl := gsLen hgs
  unfold chunksF at hcs
  rw [if_pos fun g hg => by have := grp_bd hg; omega] at hcs
  have hcl : cs.length = gs.length := by rw [csLen hcs, List.length_map, List.length_range, hgl]
  refine ⟨hcl, fun i hi => ?_⟩
  have h1 := csAt hcs (j := (i : Int)) (by rw [hcl]; omega)
  have h2 : gE ((List.range (grpF h l).length).map (chunkS 16 at_ after 0 (grpF h l))) (i : Int) = chunkS 16 at_ after 0 (grpF h l) i := by
    unfold gE
    rw [Int.toNat_natCast, List.getD_eq_getElem?_getD, List.getElem?_map, List.getElem?_range (by omega)]; rfl
  rw [h2] at h1
  obtain ⟨h3, h4⟩ := Prod.mk.inj h1
  simp only [hd, List.cons.injEq] at h3
  obtain ⟨e0, e1, e2, e3, e4, e5, e6, e7, _⟩ := h3
  rw [← gsAt hgs] at e2 h4
  rw [← hgl] at e3
  have h5 : (7 + 3 * ((16 : Nat) : Int)) = 55 := rfl
  rw [h5] at e0 e3
  exact ⟨e0, e2, e3, e4, e5, e6, e7, h4⟩
theorem l_GroupChunks {u : Value} {l : List Itm} {after at_ : Int} (haf : 0 ≤ after ∧ after ≤ 65535) (hat : 0 ≤ at_ ∧ at_ ≤ 65535) : Fn Try.prog 6 [u, .int .u16 after, .int .u16 at_] [rdE iK u l] [] (IsV (.bool true)) := by
  refine Fn.enter Try.func6 (by kernel_rfl) rfl (n := 165) rfl rfl (fun w => ?_)
  refine At.len (v := u) (by (exact rS M0)) (fun hl1 => ?_)
  have hsl := sortF_length l
  refine At.seq ?_
  refine At.plain [(false, 0)] rfl ?_
  refine At.e rfl rfl rfl rfl .all (R.assign .c) ?_
  refine At.nil ?_
  refine At.tN ?_
  refine At.seq ?_
  refine At.seq ?_
  refine At.plain [(false, 0), (false, 1)] rfl ?_
  refine At.callVR rfl rfl rfl .nil (by (exact .nil)) (fun hg => c_known9) .all ?_
  refine At.e rfl rfl rfl rfl .all (R.not (.t rfl)) ?_
  refine At.nil ?_
  refine At.tN ?_
  refine At.condF (.t rfl) ?_
  refine At.skip ?_
  refine At.tN ?_
  refine At.seq ?_
  refine At.seq ?_
  refine At.plain [(false, 0), (false, 1), (false, 2)] rfl ?_
  refine At.e rfl rfl rfl rfl .all (R.move (.t rfl)) ?_
  refine At.e rfl rfl rfl rfl .all (R.lenRd Try.underlying22 (.t rfl) (by exact rS M0)) ?_
  refine At.e rfl rfl rfl rfl .all (R.gtr (.t rfl) .c) ?_
  refine At.nil ?_
  refine At.tN ?_
  refine At.condD (.t rfl) (fun c2 => ?_) (fun c2 => ?_)
  · skip
    refine At.seq ?_
    refine At.plain [(false, 0)] rfl ?_
    refine At.e rfl rfl rfl rfl .all (R.assign .c) ?_
    refine At.nil ?_
    refine At.tN ?_
    refine At.ret ?_
    refine At.tR ?_
    exact At.final rfl (.t rfl) (List.nil_sublist _) (⟨congrArg Value.bool (by rfl), rfl, rfl⟩)
  · have hq : l.length ≤ 12 := (by omega)
    refine At.skip ?_
    refine At.tN ?_
    refine At.seq ?_
    refine At.seq ?_
    refine At.plain [(false, 0)] rfl ?_
    refine At.e rfl rfl rfl rfl .all (R.assign .c) ?_
    refine At.nil ?_
    refine At.tN ?_
    refine At.block ?_
    refine At.loop1 (fun (j : Nat) => j ≤ l.length ∧ ∀ x ∈ l.take j, 0 ≤ x.ver ∧ x.ver ≤ 1048576) (fun (j : Nat) => l.length - j) (fun (j : Nat) => [(0, true, u), (1, true, .int .u16 after), (2, true, .int .u16 at_), (7, true, .int .i64 j)]) (fun (j : Nat) => []) (fun (j : Nat) => []) (0) ⟨Nat.zero_le _, by simp⟩ (.cons rfl (.cons rfl (.cons rfl (.cons rfl .nil)))) (by (exact List.Sublist.refl _)) rfl (fun j hi => ?_)
    obtain ⟨hj1, hj2⟩ := hi
    refine At.seq ?_
    refine At.seq ?_
    refine At.plain [(false, 0), (false, 1), (false, 2), (false, 3)] rfl ?_
    refine At.e rfl rfl rfl rfl .all (R.move (.t rfl)) ?_
    refine At.e rfl rfl rfl rfl .all (R.move (.t rfl)) ?_
    refine At.e rfl rfl rfl rfl .all (R.lenRd Try.underlying22 (.t rfl) (by exact rS M0)) ?_
    refine At.e rfl rfl rfl rfl .all (R.lss (.t rfl) (.t rfl)) ?_
    refine At.nil ?_
    refine At.tN ?_
    refine At.condD (.t rfl) (fun c3 => ?_) (fun c3 => ?_)
    · skip
      refine At.skip ?_
      refine At.tN ?_
      refine At.seq ?_
      refine At.block ?_
      refine At.seq ?_
      refine At.plain [(false, 0), (false, 1), (false, 2), (false, 3), (false, 4), (false, 5), (false, 6), (false, 7), (false, 8), (false, 9), (false, 10), (false, 11), (false, 12), (false, 13)] rfl ?_
      refine At.e rfl rfl rfl rfl .all (R.move (.t rfl)) ?_
      refine At.e rfl rfl rfl rfl .all (R.move (.t rfl)) ?_
      refine At.e rfl rfl rfl rfl .all (R.indexRd Try.underlying22 sz_43 (.t rfl) (by exact rS M0) (.t rfl) (fun hg => (by omega))) ?_
      refine At.e rfl rfl rfl rfl .all (R.fieldRd fo_43_1 (.t rfl) (by exact rS M0) (fun hg => (by omega))) ?_
      refine At.e rfl rfl rfl rfl .all (R.loadRd Try.underlying3 rfl (.t rfl) (by exact rS M0) (fun hg => by exact Ek.getN rfl (by omega))) ?_
      refine At.e rfl rfl rfl rfl .all (R.lss (.t rfl) .c) ?_
      refine At.e rfl rfl rfl rfl .all (R.move (.t rfl)) ?_
      refine At.e rfl rfl rfl rfl .all (R.move (by exact .t rfl)) ?_
      refine At.e rfl rfl rfl rfl .all (R.move (by exact .t rfl)) ?_
      refine At.e rfl rfl rfl rfl .all (R.indexRd Try.underlying22 sz_43 (by exact .s rfl) (by exact rS M0) (by exact .s rfl) (fun hg => (by omega))) ?_
      refine At.e rfl rfl rfl rfl .all (R.fieldRd fo_43_1 (by exact .s rfl) (by exact rS M0) (fun hg => (by omega))) ?_
      refine At.e rfl rfl rfl rfl .all (R.loadRd Try.underlying3 rfl (by exact .s rfl) (by exact rS M0) (fun hg => by exact Ek.getN rfl (by omega))) ?_
      refine At.e rfl rfl rfl rfl .all (R.gtr (by exact .s rfl) .c) ?_
      refine At.e rfl rfl rfl rfl .all (R.pickOr (.t rfl) rfl (by (intro hg h; rw [h]; rfl))) ?_
      refine At.nil ?_
      refine At.tN ?_
      refine At.cond (.t rfl) (fun c4 => ?_) (fun c4 => ?_)
      · skip
        refine At.seq ?_
        refine At.plain [(false, 0)] rfl ?_
        refine At.e rfl rfl rfl rfl .all (R.assign .c) ?_
        refine At.nil ?_
        refine At.tN ?_
        refine At.ret ?_
        refine At.bR ?_
        refine At.tR ?_
        refine At.tR ?_
        refine At.bR ?_
        refine At.tR ?_
        exact At.final rfl (.t rfl) (List.nil_sublist _) (⟨congrArg Value.bool (by rfl), rfl, rfl⟩)
      · have hver : 0 ≤ (gE l (j : Int)).ver ∧ (gE l (j : Int)).ver ≤ 1048576 := (by simp at c4; omega)
        refine At.skip ?_
        refine At.bN ?_
        refine At.tN ?_
        refine At.plain [(false, 0), (false, 1), (false, 2)] rfl ?_
        refine At.e rfl rfl rfl rfl .all (R.move (.t rfl)) ?_
        refine At.e rfl rfl rfl rfl .all (R.addI (.t rfl) .c (fun hg => by omega)) ?_
        refine At.e rfl rfl rfl rfl .all (R.assign (.t rfl)) ?_
        refine At.nil ?_
        refine At.tN ?_
        exact At.again1 (j + 1) ⟨by omega, fun x hx => by rw [take_snoc (by omega)] at hx; rcases List.mem_append.1 hx with h | h; exact hj2 x h; simp at h; subst h; exact hver⟩ (by omega) (.cons rfl (.cons rfl (.cons rfl (.cons rfl .nil)))) (by (exact List.Sublist.refl _)) rfl
    · have hv : ∀ x ∈ l, 0 ≤ x.ver ∧ x.ver ≤ 1048576 := (by rw [List.take_of_length_le (by omega)] at hj2; exact hj2)
      refine At.exit ?_
      refine At.tE ?_
      refine At.tE ?_
      refine At.bE ?_
      refine At.tN ?_
      refine At.seq ?_
      refine At.plain [(false, 0), (false, 1), (false, 2)] rfl ?_
      refine At.callVR rfl rfl rfl (.cons .c (.cons .c (.cons .c .nil))) (by (exact .nil)) (fun hg => c_Conf) .all ?_
      refine At.alloc rfl rfl rfl ze_24 (fun b1 hb1 => ⟨.all, ?_⟩)
      refine At.stN rfl rfl sz_24 (.t rfl) (.t rfl) rfl rfl rfl (.n U0) ⟨.all, ?_⟩
      refine At.nil ?_
      refine At.tN ?_
      refine At.seq ?_
      refine At.plain [(false, 0), (false, 1), (false, 2)] rfl ?_
      refine At.e rfl rfl rfl rfl .all (R.move (.t rfl)) ?_
      refine At.callRF rfl rfl rfl (.cons (.t rfl) .nil) (by (exact .cons (by (exact rS M0)) .nil)) (c_rSort (by omega)) (fun v1 => ⟨.all, ?_⟩)
      refine At.e rfl rfl rfl rfl .all (R.assign (.t rfl)) ?_
      refine At.nil ?_
      refine At.tN ?_
      refine At.seq ?_
      refine At.plain [(false, 0), (false, 1), (false, 2)] rfl ?_
      refine At.e rfl rfl rfl rfl .all (R.move (.t rfl)) ?_
      refine At.callRG rfl rfl rfl (.cons (.t rfl) (.cons .c .nil)) (by (exact .cons (by (exact wS M1)) .nil)) (c_Split (l := sortF l) (by omega)) (fun vg gs hgs => ⟨.all, ?_⟩); rw [split_is] at hgs; have hgl := gsLen hgs; have hml : (gs.map (·.1)).length = gs.length := List.length_map _; have hgn := grp_len (h := max 2 (min 16 16) / 2) (l := l)
      refine At.e rfl rfl rfl rfl .all (R.assign (.t rfl)) ?_
      refine At.nil ?_
      refine At.tN ?_
      refine At.seq ?_
      refine At.plain [(false, 0), (false, 1), (false, 2), (false, 3), (false, 4), (false, 5), (false, 6), (false, 7)] rfl ?_
      refine At.e rfl rfl rfl rfl .all (R.loadAgg (vs := [_, _, _, _]) Try.underlying24 rfl sz_24 (.t rfl) (by exact csS M3 ⟨rfl, rfl, rfl, rfl, trivial⟩)) ?_
      refine At.e rfl rfl rfl rfl .all (R.move (.t rfl)) ?_
      refine At.e rfl rfl rfl rfl .all (R.as (R.conv Try.underlying25 Try.underlying3 (.t rfl)) (fun _ => congrArg (Value.int .i64) (IntWalk.i64_in _ (by omega)))) ?_
      refine At.e rfl rfl rfl rfl .all (R.move (.t rfl)) ?_
      refine At.e rfl rfl rfl rfl .all (R.as (R.conv Try.underlying25 Try.underlying3 (.t rfl)) (fun _ => congrArg (Value.int .i64) (IntWalk.i64_in _ (by omega)))) ?_
      refine At.e rfl rfl rfl rfl .all (R.move (.t rfl)) ?_
      refine At.callRC rfl rfl rfl (.cons (.t rfl) (.cons (.t rfl) (.cons (.t rfl) (.cons .c (.cons (.t rfl) .nil))))) (Rds.ofSeg (Eo := 0) (E := 0) (by (exact wS M1)) (segAll (E := 43) (by (apply List.Sublist.cons; apply List.Sublist.cons; apply List.Sublist.cons; exact List.Sublist.refl _)))) (c_Chunks (gs := asN gs) (cap := 16) (by rw [asN_len]; omega) (by omega) (by omega) (by omega)) (fun vc cs hcs => ⟨.all, ?_⟩); rw [asN_snd, hgs] at hcs; obtain ⟨hcl, hfa⟩ := chk_facts hgs hcs hq; have hcm : (cs.map (·.1)).length = cs.length := List.length_map _; refine At.re (N' := rowE chK 40 vc (cs.map (·.1)) :: rowE sK 22 vg (gs.map (·.1)) :: rowE iK 43 v1 (sortF l) :: .blk b1 (.cells #[.int .i64 1, .int .i64 16, .int .i64 400, .int .i64 1000] 24) :: (seg iK 43 gs ++ csg 61 cs)) rfl ?_
      refine At.e rfl rfl rfl rfl .all (R.assign (.t rfl)) ?_
      refine At.nil ?_
      refine At.tN ?_
      refine At.seq ?_
      refine At.seq ?_
      refine At.plain [(false, 0), (false, 1), (false, 2), (false, 3), (false, 4)] rfl ?_
      refine At.e rfl rfl rfl rfl .all (R.move (.t rfl)) ?_
      refine At.e rfl rfl rfl rfl .all (R.lenRd Try.underlying35 (.t rfl) (by exact wS M1)) ?_
      refine At.e rfl rfl rfl rfl .all (R.move (.t rfl)) ?_
      refine At.e rfl rfl rfl rfl .all (R.lenRd Try.underlying29 (.t rfl) (by exact wS M2)) ?_
      refine At.e rfl rfl rfl rfl .all (R.as (R.neq (.t rfl) (.t rfl)) (fun _ => congrArg Value.bool (congrArg Bool.not (decide_eq_true (by omega))))) ?_
      refine At.nil ?_
      refine At.tN ?_
      refine At.condF (.t rfl) ?_
      refine At.skip ?_
      refine At.tN ?_
      refine At.seq ?_
      refine At.plain [(false, 0)] rfl ?_
      refine At.e rfl rfl rfl rfl .all (R.assign .c) ?_
      refine At.nil ?_
      refine At.tN ?_
      refine At.seq ?_
      refine At.seq ?_
      refine At.plain [(false, 0)] rfl ?_
      refine At.e rfl rfl rfl rfl .all (R.assign .c) ?_
      refine At.nil ?_
      refine At.tN ?_
      refine At.block ?_
      refine At.nilRow iK 43 ?_
      refine At.loop3 (fun (i : Nat) (out : List Itm) (vo : Value) => i ≤ gs.length ∧ out = ((grpF (max 2 (min 16 16) / 2) l).take i).flatten ∧ out.length ≤ 12 * i) (fun (i : Nat) (out : List Itm) (vo : Value) => gs.length - i) (fun (i : Nat) (out : List Itm) (vo : Value) => [(1, true, .int .u16 after), (2, true, .int .u16 at_), (8, true, .pointer (some ⟨b1, 0, none⟩)), (9, true, v1), (10, true, vg), (11, true, vc), (12, true, vo), (13, true, .int .i64 i)]) (fun (i : Nat) (out : List Itm) (vo : Value) => rowE iK 43 vo (out) :: rowE chK 40 vc (cs.map (·.1)) :: rowE sK 22 vg (gs.map (·.1)) :: rowE iK 43 v1 (sortF l) :: .blk b1 (.cells #[.int .i64 1, .int .i64 16, .int .i64 400, .int .i64 1000] 24) :: (seg iK 43 gs ++ csg 61 cs)) (fun (i : Nat) (out : List Itm) (vo : Value) => []) (0) ([]) (.slice none 0 0) ⟨Nat.zero_le _, rfl, Nat.zero_le _⟩ (.cons rfl (.cons rfl (.cons rfl (.cons rfl (.cons rfl (.cons rfl (.cons rfl (.cons rfl .nil)))))))) (by (exact List.Sublist.refl _)) rfl (fun i out vo hi => ?_)
      obtain ⟨hi1, hi2, hi3⟩ := hi
      refine At.seq ?_
      refine At.seq ?_
      refine At.plain [(false, 0), (false, 1), (false, 2), (false, 3)] rfl ?_
      refine At.e rfl rfl rfl rfl .all (R.move (.t rfl)) ?_
      refine At.e rfl rfl rfl rfl .all (R.move (.t rfl)) ?_
      refine At.e rfl rfl rfl rfl .all (R.lenRd Try.underlying35 (.t rfl) (by exact wS M2)) ?_
      refine At.e rfl rfl rfl rfl .all (R.lss (.t rfl) (.t rfl)) ?_
      refine At.nil ?_
      refine At.tN ?_
      refine At.condD (.t rfl) (fun c6 => ?_) (fun c6 => ?_)
      · obtain ⟨x0, x2, x3, x4, x5, x6, x7, xc⟩ := hfa i (by omega); have hgi := grp_le12 (i := i) hgs hq; have hxl : (gE cs (i : Int)).2.length = 16 := (by rw [xc, cellsP_len (Nat.le_refl _) (by omega)]); have hit : itemsF (gE cs (i : Int)).2 = (gE gs (i : Int)).2 := (by rw [xc, items_cells (fun x hx => hv x (by rw [gsAt hgs] at hx; exact grp_sub (gE_in (by omega)) x hx))]); have hil : (itemsF (gE cs (i : Int)).2).length ≤ 12 := (by rw [hit]; exact hgi)
        refine At.skip ?_
        refine At.tN ?_
        refine At.seq ?_
        refine At.block ?_
        refine At.seq ?_
        refine At.plain [(false, 0), (false, 1), (false, 2)] rfl ?_
        refine At.e rfl rfl rfl rfl .all (R.move (.t rfl)) ?_
        refine At.e rfl rfl rfl rfl .all (R.as (R.conv Try.underlying25 Try.underlying3 (.t rfl)) (fun _ => congrArg (Value.int .i64) (IntWalk.i64_in _ (by omega)))) ?_
        refine At.e rfl rfl rfl rfl .all (R.assign (.t rfl)) ?_
        refine At.nil ?_
        refine At.tN ?_
        refine At.seq ?_
        refine At.seq ?_
        refine At.plain [(false, 0), (false, 1), (false, 2), (false, 3), (false, 4)] rfl ?_
        refine At.e rfl rfl rfl rfl .all (R.move (.t rfl)) ?_
        refine At.e rfl rfl rfl rfl .all (R.addI (.t rfl) .c (fun hg => by omega)) ?_
        refine At.e rfl rfl rfl rfl .all (R.move (.t rfl)) ?_
        refine At.e rfl rfl rfl rfl .all (R.lenRd Try.underlying35 (.t rfl) (by exact wS M2)) ?_
        refine At.e rfl rfl rfl rfl .all (R.lss (.t rfl) (.t rfl)) ?_
        refine At.nil ?_
        refine At.tN ?_
        refine At.cut1 (fun (nx : Int) => nx = if i + 1 = gs.length then after else at_ + (i : Int) * 55 + 55) (fun (nx : Int) => [(1, true, .int .u16 after), (2, true, .int .u16 at_), (8, true, .pointer (some ⟨b1, 0, none⟩)), (9, true, v1), (10, true, vg), (11, true, vc), (12, true, vo), (13, true, .int .i64 i), (14, true, .int .i64 nx)]) (fun (nx : Int) => rowE iK 43 vo (out) :: rowE chK 40 vc (cs.map (·.1)) :: rowE sK 22 vg (gs.map (·.1)) :: rowE iK 43 v1 (sortF l) :: .blk b1 (.cells #[.int .i64 1, .int .i64 16, .int .i64 400, .int .i64 1000] 24) :: (seg iK 43 gs ++ csg 61 cs)) (fun (nx : Int) => []) ?_ (fun nx hi => ?_)
        · skip
          refine At.condD (.t rfl) (fun c7 => ?_) (fun c7 => ?_)
          · have hnx := (hfa (i + 1) (by omega)).1; rw [show ((i + 1 : Nat) : Int) = (i : Int) + 1 by omega] at hnx
            refine At.plain [(false, 0), (false, 1), (false, 2), (false, 3), (false, 4), (false, 5), (false, 6)] rfl ?_
            refine At.e rfl rfl rfl rfl .all (R.move (.t rfl)) ?_
            refine At.e rfl rfl rfl rfl .all (R.move (.t rfl)) ?_
            refine At.e rfl rfl rfl rfl .all (R.addI (.t rfl) .c (fun hg => by omega)) ?_
            refine At.e rfl rfl rfl rfl .all (R.indexRd Try.underlying35 sz_40 (.t rfl) (by exact wS M2) (.t rfl) (fun hg => (by omega))) ?_
            refine At.e rfl rfl rfl rfl .all (R.fieldRd fo_40_0 (.t rfl) (by exact wS M2) (fun hg => (by omega))) ?_
            refine At.e rfl rfl rfl rfl .all (R.loadRd Try.underlying3 rfl (.t rfl) (by exact wS M2) (fun hg => by exact Ek.getN rfl (by omega))) ?_
            refine At.e rfl rfl rfl rfl .all (R.assign (.t rfl)) ?_
            refine At.nil ?_
            refine At.tN ?_
            exact At.mid1 ((gE (cs.map (·.1)) ((i : Int) + 1)).a0) (by rw [if_neg (by omega), hnx]; omega) (.cons rfl (.cons rfl (.cons rfl (.cons rfl (.cons rfl (.cons rfl (.cons rfl (.cons rfl (.cons rfl .nil))))))))) (by (exact List.Sublist.refl _)) rfl
          · skip
            refine At.skip ?_
            refine At.tN ?_
            exact At.mid1 (after) (by rw [if_pos (by omega)]) (.cons rfl (.cons rfl (.cons rfl (.cons rfl (.cons rfl (.cons rfl (.cons rfl (.cons rfl (.cons rfl .nil))))))))) (by (exact List.Sublist.refl _)) rfl
        · have hnb : 0 ≤ nx ∧ nx ≤ 100000 := (by rw [hi]; split <;> omega); rw [← hi] at x3
          refine At.seq ?_
          refine At.seq ?_
          refine At.drawK [(true, 0), (true, 1), (true, 2), (true, 3), (true, 4), (true, 5), (true, 6), (true, 7), (true, 8), (false, 9), (true, 10), (true, 11), (true, 12), (true, 13), (true, 14), (true, 15), (true, 16), (true, 17), (true, 18), (true, 20), (false, 19), (true, 21), (true, 22), (true, 23), (true, 24), (true, 25), (true, 26), (true, 27), (true, 28), (false, 29), (true, 30), (true, 31), (true, 32), (true, 33), (true, 34), (true, 35), (true, 36), (true, 37), (true, 38), (true, 39), (true, 40), (true, 41), (true, 42), (true, 43), (true, 44), (true, 45), (true, 46), (true, 47), (true, 48), (true, 49), (true, 50), (true, 51), (true, 52), (true, 53), (true, 54), (true, 55), (true, 56), (true, 57), (true, 58), (true, 59), (true, 60), (true, 61), (true, 62), (true, 63), (true, 64), (true, 65), (true, 66), (true, 67), (true, 68), (true, 69), (true, 70), (true, 71), (true, 72), (true, 73), (true, 74), (true, 75), (true, 76), (true, 77), (true, 78)] (by kernel_rfl) (by kernel_rfl) ?_
          refine At.s rfl rfl rfl rfl (Cl.kept fun _ h => h) (R.move (.t rfl)) ?_
          refine At.s rfl rfl rfl rfl (Cl.kept fun _ h => h) (R.move (.t rfl)) ?_
          refine At.s rfl rfl rfl rfl (Cl.kept fun _ h => h) (R.indexRd Try.underlying35 sz_40 (.t rfl) (by exact wK M2) (.t rfl) (fun hg => (by omega))) ?_
          refine At.s rfl rfl rfl rfl (Cl.kept fun _ h => h) (R.fieldRd fo_40_0 (.t rfl) (by exact wK M2) (fun hg => (by omega))) ?_
          refine At.s rfl rfl rfl rfl (Cl.kept fun _ h => h) (R.loadRd Try.underlying3 rfl (.t rfl) (by exact wK M2) (fun hg => by exact Ek.getN rfl (by omega))) ?_
          refine At.s rfl rfl rfl rfl (Cl.kept fun _ h => h) (R.move (.t rfl)) ?_
          refine At.s rfl rfl rfl rfl (Cl.kept fun _ h => h) (R.as (R.conv Try.underlying25 Try.underlying3 (.t rfl)) (fun _ => congrArg (Value.int .i64) (IntWalk.i64_in _ (by omega)))) ?_
          refine At.s rfl rfl rfl rfl (Cl.kept fun _ h => h) (R.move (.t rfl)) ?_
          refine At.s rfl rfl rfl rfl (Cl.kept fun _ h => h) (R.loadAgg (vs := [_, _, _, _]) Try.underlying24 rfl sz_24 (.t rfl) (by exact csK M5 ⟨rfl, rfl, rfl, rfl, trivial⟩)) ?_
          refine At.callVR rfl rfl rfl (.cons (.t rfl) .nil) (by (exact .nil)) (fun hg => c_rSizeI (by omega) (by omega)) (Cl.kept (by (exact fun _ h => h))) ?_
          refine At.s rfl rfl rfl rfl (Cl.kept (by (exact fun _ h => h))) (R.mulI (.t rfl) (.t rfl) (fun hg => by omega)) ?_
          refine At.s rfl rfl rfl rfl (Cl.kept (by (exact fun _ h => h))) (R.addI (.t rfl) (.t rfl) (fun hg => by omega)) ?_
          refine At.s rfl rfl rfl rfl (Cl.kept (by (exact fun _ h => h))) (R.as (R.neq (.t rfl) (.t rfl)) (fun _ => congrArg Value.bool (congrArg Bool.not (decide_eq_true (by omega))))) ?_
          refine At.s rfl rfl rfl rfl (Cl.kept (by (exact fun _ h => h))) (R.move (.t rfl)) ?_
          refine At.s rfl rfl rfl rfl (Cl.kept (by (exact fun _ h => h))) (R.move (by exact .t rfl)) ?_
          refine At.s rfl rfl rfl rfl (Cl.kept (by (exact fun _ h => h))) (R.move (by exact .t rfl)) ?_
          refine At.s rfl rfl rfl rfl (Cl.kept (by (exact fun _ h => h))) (R.indexRd Try.underlying35 sz_40 (by exact .t rfl) (by exact wK M2) (by exact .t rfl) (fun hg => (by omega))) ?_
          refine At.s rfl rfl rfl rfl (Cl.kept (by (exact fun _ h => h))) (R.fieldRd fo_40_3 (by exact .t rfl) (by exact wK M2) (fun hg => (by omega))) ?_
          refine At.s rfl rfl rfl rfl (Cl.kept (by (exact fun _ h => h))) (R.loadRd Try.underlying3 rfl (by exact .t rfl) (by exact wK M2) (fun hg => by exact Ek.getN rfl (by omega))) ?_
          refine At.s rfl rfl rfl rfl (Cl.kept (by (exact fun _ h => h))) (R.move (by exact .t rfl)) ?_
          refine At.callVR rfl rfl rfl (.cons (by exact .t rfl) .nil) (by (exact .nil)) (fun hg => c_rAt) (Cl.kept (by (exact fun _ h => h))) ?_
          refine At.s rfl rfl rfl rfl (Cl.kept (by (exact fun _ h => h))) (R.as (R.neq (by exact .t rfl) (by exact .t rfl)) (fun _ => congrArg Value.bool (congrArg Bool.not (decide_eq_true (by omega))))) ?_
          refine At.s rfl rfl rfl rfl (Cl.kept (by (exact fun _ h => h))) (R.pickF (.t rfl) (.t rfl)) ?_
          refine At.s rfl rfl rfl rfl (Cl.kept (by (exact fun _ h => h))) (R.move (.t rfl)) ?_
          refine At.s rfl rfl rfl rfl (Cl.kept (by (exact fun _ h => h))) (R.move (by exact .t rfl)) ?_
          refine At.s rfl rfl rfl rfl (Cl.kept (by (exact fun _ h => h))) (R.move (by exact .t rfl)) ?_
          refine At.s rfl rfl rfl rfl (Cl.kept (by (exact fun _ h => h))) (R.indexRd Try.underlying35 sz_40 (by exact .t rfl) (by exact wK M2) (by exact .t rfl) (fun hg => (by omega))) ?_
          refine At.s rfl rfl rfl rfl (Cl.kept (by (exact fun _ h => h))) (R.fieldRd fo_40_3 (by exact .t rfl) (by exact wK M2) (fun hg => (by omega))) ?_
          refine At.s rfl rfl rfl rfl (Cl.kept (by (exact fun _ h => h))) (R.loadRd Try.underlying3 rfl (by exact .t rfl) (by exact wK M2) (fun hg => by exact Ek.getN rfl (by omega))) ?_
          refine At.callVR rfl rfl rfl (.cons (by exact .t rfl) .nil) (by (exact .nil)) (fun hg => c_MarkedF (by omega) (by omega) (by omega)) (Cl.kept (by (exact fun _ h => h))) ?_
          refine At.s rfl rfl rfl rfl (Cl.kept (by (exact fun _ h => h))) (R.pickF (.t rfl) (.t rfl)) ?_
          refine At.s rfl rfl rfl rfl (Cl.kept (by (exact fun _ h => h))) (R.move (.t rfl)) ?_
          refine At.s rfl rfl rfl rfl (Cl.kept (by (exact fun _ h => h))) (R.move (by exact .t rfl)) ?_
          refine At.s rfl rfl rfl rfl (Cl.kept (by (exact fun _ h => h))) (R.move (by exact .t rfl)) ?_
          refine At.s rfl rfl rfl rfl (Cl.kept (by (exact fun _ h => h))) (R.indexRd Try.underlying35 sz_40 (by exact .t rfl) (by exact wK M2) (by exact .t rfl) (fun hg => (by omega))) ?_
          refine At.s rfl rfl rfl rfl (Cl.kept (by (exact fun _ h => h))) (R.fieldRd fo_40_2 (by exact .t rfl) (by exact wK M2) (fun hg => (by omega))) ?_
          refine At.s rfl rfl rfl rfl (Cl.kept (by (exact fun _ h => h))) (R.loadRd Try.underlying3 rfl (by exact .t rfl) (by exact wK M2) (fun hg => by exact Ek.getN rfl (by omega))) ?_
          refine At.s rfl rfl rfl rfl (Cl.kept (by (exact fun _ h => h))) (R.move (by exact .t rfl)) ?_
          refine At.s rfl rfl rfl rfl (Cl.kept (by (exact fun _ h => h))) (R.move (by exact .t rfl)) ?_
          refine At.s rfl rfl rfl rfl (Cl.kept (by (exact fun _ h => h))) (R.indexRd Try.underlying29 sz_22 (by exact .t rfl) (by exact wK M3) (by exact .t rfl) (fun hg => (by omega))) ?_
          refine At.s rfl rfl rfl rfl (Cl.kept (by (exact fun _ h => h))) (R.loadRd Try.underlying22 rfl (by exact .t rfl) (by exact wK M3) (fun hg => by exact segGet (by omega))) ?_
          refine At.s rfl rfl rfl rfl (Cl.kept (by (exact fun _ h => h))) (R.lenRd Try.underlying22 (by exact .t rfl) (by exact segKT (k := iK) (gs := gs) (by (apply List.Sublist.cons; apply List.Sublist.cons; apply List.Sublist.cons; apply List.Sublist.cons; apply List.Sublist.cons; exact List.sublist_append_left _ _)) (by omega))) ?_
          refine At.s rfl rfl rfl rfl (Cl.kept (by (exact fun _ h => h))) (R.as (R.neq (by exact .t rfl) (by exact .t rfl)) (fun _ => congrArg Value.bool (congrArg Bool.not (decide_eq_true (by omega))))) ?_
          refine At.s rfl rfl rfl rfl (Cl.kept (by (exact fun _ h => h))) (R.pickF (.t rfl) (.t rfl)) ?_
          refine At.s rfl rfl rfl rfl (Cl.kept (by (exact fun _ h => h))) (R.move (.t rfl)) ?_
          refine At.s rfl rfl rfl rfl (Cl.kept (by (exact fun _ h => h))) (R.move (by exact .t rfl)) ?_
          refine At.s rfl rfl rfl rfl (Cl.kept (by (exact fun _ h => h))) (R.move (by exact .t rfl)) ?_
          refine At.s rfl rfl rfl rfl (Cl.kept (by (exact fun _ h => h))) (R.indexRd Try.underlying35 sz_40 (by exact .t rfl) (by exact wK M2) (by exact .t rfl) (fun hg => (by omega))) ?_
          refine At.s rfl rfl rfl rfl (Cl.kept (by (exact fun _ h => h))) (R.fieldRd fo_40_8 (by exact .t rfl) (by exact wK M2) (fun hg => (by omega))) ?_
          refine At.s rfl rfl rfl rfl (Cl.kept (by (exact fun _ h => h))) (R.loadRd Try.underlying38 rfl (by exact .t rfl) (by exact wK M2) (fun hg => by exact Ek.getN rfl (by omega))) ?_
          refine At.s rfl rfl rfl rfl (Cl.kept (by (exact fun _ h => h))) (R.lenRd Try.underlying38 (by exact .t rfl) (by exact csgKT (cs := cs) (by (apply List.Sublist.cons; apply List.Sublist.cons; apply List.Sublist.cons; apply List.Sublist.cons; apply List.Sublist.cons; exact List.sublist_append_right _ _)) (by omega))) ?_
          refine At.s rfl rfl rfl rfl (Cl.kept (by (exact fun _ h => h))) (R.as (R.neq (by exact .t rfl) .c) (fun _ => congrArg Value.bool (congrArg Bool.not (decide_eq_true (by omega))))) ?_
          refine At.s rfl rfl rfl rfl (Cl.kept (by (exact fun _ h => h))) (R.pickF (.t rfl) (.t rfl)) ?_
          refine At.s rfl rfl rfl rfl (Cl.kept (by (exact fun _ h => h))) (R.move (.t rfl)) ?_
          refine At.s rfl rfl rfl rfl (Cl.kept (by (exact fun _ h => h))) (R.move (by exact .t rfl)) ?_
          refine At.s rfl rfl rfl rfl (Cl.kept (by (exact fun _ h => h))) (R.move (by exact .t rfl)) ?_
          refine At.s rfl rfl rfl rfl (Cl.kept (by (exact fun _ h => h))) (R.indexRd Try.underlying35 sz_40 (by exact .t rfl) (by exact wK M2) (by exact .t rfl) (fun hg => (by omega))) ?_
          refine At.s rfl rfl rfl rfl (Cl.kept (by (exact fun _ h => h))) (R.fieldRd fo_40_4 (by exact .t rfl) (by exact wK M2) (fun hg => (by omega))) ?_
          refine At.s rfl rfl rfl rfl (Cl.kept (by (exact fun _ h => h))) (R.loadRd Try.underlying3 rfl (by exact .t rfl) (by exact wK M2) (fun hg => by exact Ek.getN rfl (by omega))) ?_
          refine At.s rfl rfl rfl rfl (Cl.kept (by (exact fun _ h => h))) (R.move (by exact .t rfl)) ?_
          refine At.s rfl rfl rfl rfl (Cl.kept (by (exact fun _ h => h))) (R.move (by exact .t rfl)) ?_
          refine At.s rfl rfl rfl rfl (Cl.kept (by (exact fun _ h => h))) (R.indexRd Try.underlying35 sz_40 (by exact .t rfl) (by exact wK M2) (by exact .t rfl) (fun hg => (by omega))) ?_
          refine At.s rfl rfl rfl rfl (Cl.kept (by (exact fun _ h => h))) (R.fieldRd fo_40_5 (by exact .t rfl) (by exact wK M2) (fun hg => (by omega))) ?_
          refine At.s rfl rfl rfl rfl (Cl.kept (by (exact fun _ h => h))) (R.loadRd Try.underlying3 rfl (by exact .t rfl) (by exact wK M2) (fun hg => by exact Ek.getN rfl (by omega))) ?_
          refine At.s rfl rfl rfl rfl (Cl.kept (by (exact fun _ h => h))) (R.addI (by exact .t rfl) (by exact .t rfl) (fun hg => by omega)) ?_
          refine At.s rfl rfl rfl rfl (Cl.kept (by (exact fun _ h => h))) (R.move (by exact .t rfl)) ?_
          refine At.s rfl rfl rfl rfl (Cl.kept (by (exact fun _ h => h))) (R.move (by exact .t rfl)) ?_
          refine At.s rfl rfl rfl rfl (Cl.kept (by (exact fun _ h => h))) (R.indexRd Try.underlying35 sz_40 (by exact .t rfl) (by exact wK M2) (by exact .t rfl) (fun hg => (by omega))) ?_
          refine At.s rfl rfl rfl rfl (Cl.kept (by (exact fun _ h => h))) (R.fieldRd fo_40_6 (by exact .t rfl) (by exact wK M2) (fun hg => (by omega))) ?_
          refine At.s rfl rfl rfl rfl (Cl.kept (by (exact fun _ h => h))) (R.loadRd Try.underlying3 rfl (by exact .t rfl) (by exact wK M2) (fun hg => by exact Ek.getN rfl (by omega))) ?_
          refine At.s rfl rfl rfl rfl (Cl.kept (by (exact fun _ h => h))) (R.addI (by exact .t rfl) (by exact .t rfl) (fun hg => by omega)) ?_
          refine At.s rfl rfl rfl rfl (Cl.kept (by (exact fun _ h => h))) (R.move (by exact .t rfl)) ?_
          refine At.s rfl rfl rfl rfl (Cl.kept (by (exact fun _ h => h))) (R.move (by exact .t rfl)) ?_
          refine At.s rfl rfl rfl rfl (Cl.kept (by (exact fun _ h => h))) (R.indexRd Try.underlying35 sz_40 (by exact .t rfl) (by exact wK M2) (by exact .t rfl) (fun hg => (by omega))) ?_
          refine At.s rfl rfl rfl rfl (Cl.kept (by (exact fun _ h => h))) (R.fieldRd fo_40_7 (by exact .t rfl) (by exact wK M2) (fun hg => (by omega))) ?_
          refine At.s rfl rfl rfl rfl (Cl.kept (by (exact fun _ h => h))) (R.loadRd Try.underlying3 rfl (by exact .t rfl) (by exact wK M2) (fun hg => by exact Ek.getN rfl (by omega))) ?_
          refine At.s rfl rfl rfl rfl (Cl.kept (by (exact fun _ h => h))) (R.addI (by exact .t rfl) (by exact .t rfl) (fun hg => by omega)) ?_
          refine At.s rfl rfl rfl rfl (Cl.kept (by (exact fun _ h => h))) (R.as (R.neq (by exact .t rfl) .c) (fun _ => congrArg Value.bool (congrArg Bool.not (decide_eq_true (by omega))))) ?_
          refine At.s rfl rfl rfl rfl (Cl.kept (by (exact fun _ h => h))) (R.pickF (.t rfl) (.t rfl)) ?_
          refine At.nil ?_
          refine At.tN ?_
          refine At.condF (.t rfl) ?_
          refine At.skip ?_
          refine At.tN ?_
          refine At.plain [(false, 0), (false, 1), (false, 2), (false, 3), (false, 4), (false, 5), (false, 6), (false, 7)] rfl ?_
          refine At.e rfl rfl rfl rfl .all (R.move (.t rfl)) ?_
          refine At.e rfl rfl rfl rfl .all (R.move (.t rfl)) ?_
          refine At.e rfl rfl rfl rfl .all (R.move (.t rfl)) ?_
          refine At.e rfl rfl rfl rfl .all (R.indexRd Try.underlying35 sz_40 (.t rfl) (by exact wS M2) (.t rfl) (fun hg => (by omega))) ?_
          refine At.e rfl rfl rfl rfl .all (R.loadRdAgg (us := chK.enc _) Try.underlying40 rfl sz_40 (.t rfl) (by exact wS M2) (fun hg => (by omega)) (fun hg => by exact Ek.getA (by omega))) ?_
          refine At.callRF rfl rfl rfl (.cons (.t rfl) .nil) (.cons (csgST (cs := cs) (by (apply List.Sublist.cons; apply List.Sublist.cons; apply List.Sublist.cons; apply List.Sublist.cons; apply List.Sublist.cons; exact List.sublist_append_right _ _)) (by omega)) .nil) (c_rItemsT (by omega) (by rw [xc]; exact cells_le)) (fun vi => ⟨.all, ?_⟩)
          refine At.app (k := iK) rfl rfl rfl Try.underlying22 et_43 (.t rfl) (.t rfl) (fun _ => by (exact U1)) (by exact wS M1) (by (constructor <;> omega)) (fun v2 => ⟨.all, ?_⟩)
          refine At.e rfl rfl rfl rfl .all (R.assign (.t rfl)) ?_
          refine At.nil ?_
          refine At.bN ?_
          refine At.tN ?_
          refine At.plain [(false, 0), (false, 1), (false, 2)] rfl ?_
          refine At.e rfl rfl rfl rfl .all (R.move (.t rfl)) ?_
          refine At.e rfl rfl rfl rfl .all (R.addI (.t rfl) .c (fun hg => by omega)) ?_
          refine At.e rfl rfl rfl rfl .all (R.assign (.t rfl)) ?_
          refine At.nil ?_
          refine At.tN ?_
          exact At.again3 (i + 1) (out ++ itemsF (gE cs (i : Int)).2) (v2) ⟨by omega, by rw [hi2, hit, gsAt hgs, flat_step (by omega)], by rw [List.length_append]; omega⟩ (by omega) (.cons rfl (.cons rfl (.cons rfl (.cons rfl (.cons rfl (.cons rfl (.cons rfl (.cons rfl .nil)))))))) (by (apply List.Sublist.cons; exact List.Sublist.refl _)) rfl
      · skip
        refine At.exit ?_
        refine At.tE ?_
        refine At.tE ?_
        refine At.bE ?_
        refine At.tN ?_
        refine At.seq ?_
        have hall : out = sortF l := (by rw [hi2, List.take_of_length_le (by omega)]; exact grp_flat)
        refine At.plain [(false, 0), (false, 1), (false, 2), (false, 3)] rfl ?_
        refine At.e rfl rfl rfl rfl .all (R.move (.t rfl)) ?_
        refine At.e rfl rfl rfl rfl .all (R.move (.t rfl)) ?_
        refine At.callVR rfl rfl rfl (.cons (.t rfl) (.cons (.t rfl) .nil)) (by (exact .cons (by (exact wS M1)) (.cons (by (exact wS M4)) .nil))) (fun hg => c_SameItemsT hall) .all ?_
        refine At.e rfl rfl rfl rfl .all (R.assign (.t rfl)) ?_
        refine At.nil ?_
        refine At.tN ?_
        refine At.ret ?_
        exact At.final rfl (.t rfl) (List.nil_sublist _) (⟨congrArg Value.bool (by rfl), rfl, rfl⟩)

end Go.Proofs.Ytejpanipdjknjaa
