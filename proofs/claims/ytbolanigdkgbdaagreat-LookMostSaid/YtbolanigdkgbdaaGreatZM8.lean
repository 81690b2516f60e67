/- Part of the proof: lemmas for what the last file states; no condition. -/
import Derived.Test.YtbolanigdkgbdaaGreatZM7
set_option linter.unusedSectionVars false
namespace Go.Proofs.YtbolanigdkgbdaaGreat
open Go Go.RowKit
set_option maxRecDepth 10000
set_option linter.unusedVariables false
set_option linter.unnecessarySimpa false
set_option maxHeartbeats 1000000
theorem bt_224 : buildTab Tryz.prog 224 = some (#[.int .i64 0, .int .i64 0], [(0, 1), (1, 1)]) := by kernel_rfl
theorem et_224 : elemTab Tryz.prog 224 = some (2, 16) := by kernel_rfl
theorem fo_237_1 : fieldOff? Tryz.prog 237 1 = some 1 := by kernel_rfl
theorem fo_237_2 : fieldOff? Tryz.prog 237 2 = some 2 := by kernel_rfl
theorem fo_239_0 : fieldOff? Tryz.prog 239 0 = some 0 := by kernel_rfl
theorem fo_239_1 : fieldOff? Tryz.prog 239 1 = some 1 := by kernel_rfl
theorem fo_239_2 : fieldOff? Tryz.prog 239 2 = some 2 := by kernel_rfl
theorem fq_239 : flatQ Tryz.prog 239 = some [true, true, true] := by kernel_rfl
def cellW (a : Int) (k : Nat) (y : Cel) : List (Int × Int) := if y = ⟨0, 0, 0⟩ then [] else [(a + 7 + 3 * (k : Int), y.state), (a + 7 + 3 * (k : Int) + 1, y.key), (a + 7 + 3 * (k : Int) + 2, y.data)]
def cellsW (a : Int) (l : List Cel) : Nat → List (Int × Int)
  | 0 => []
  | k + 1 => cellsW a l k ++ cellW a k (gE l (k : Int))
def wordsF (cs : List (Chk × List Cel)) : Nat → List (Int × Int)
  | 0 => []
  | i + 1 => wordsF cs i ++ ([((gE cs (i : Int)).1.a0 + 0, (gE cs (i : Int)).1.a1), ((gE cs (i : Int)).1.a0 + 1, (gE cs (i : Int)).1.a2), ((gE cs (i : Int)).1.a0 + 2, (gE cs (i : Int)).1.a3)] ++ cellsW (gE cs (i : Int)).1.a0 (gE cs (i : Int)).2 (gE cs (i : Int)).2.length)
theorem wordsF_step {cs : List (Chk × List Cel)} {i : Nat} {out : List (Int × Int)} (_h : i < cs.length) (ho : out = wordsF cs i) : out ++ [((gE cs (i : Int)).1.a0 + 0, (gE cs (i : Int)).1.a1), ((gE cs (i : Int)).1.a0 + 1, (gE cs (i : Int)).1.a2), ((gE cs (i : Int)).1.a0 + 2, (gE cs (i : Int)).1.a3)] ++ cellsW (gE cs (i : Int)).1.a0 (gE cs (i : Int)).2 (gE cs (i : Int)).2.length = wordsF cs (i + 1) := by
  rw [ho, List.append_assoc]; rfl
theorem cellsW_yes {a : Int} {l : List Cel} {k : Nat} {A : List (Int × Int)} (h : ¬ gE l (k : Int) = ⟨0, 0, 0⟩) : (A ++ cellsW a l k) ++ [(a + 7 + 3 * (k : Int), (gE l (k : Int)).state), (a + 7 + 3 * (k : Int) + 1, (gE l (k : Int)).key), (a + 7 + 3 * (k : Int) + 2, (gE l (k : Int)).data)] = A ++ cellsW a l (k + 1) := by
  rw [cellsW, cellW, if_neg h, List.append_assoc]
theorem cellsW_no {a : Int} {l : List Cel} {k : Nat} (h : gE l (k : Int) = ⟨0, 0, 0⟩) : cellsW a l (k + 1) = cellsW a l k := by
  rw [cellsW, cellW, if_pos h, List.append_nil]
section
variable [Df] {w0 : World} {S N H : Hp}
theorem chNS {cs : List (Chk × List Cel)} {j : Int} (h : ∀ x ∈ cs, rdE cellK x.1.u.1 x.2 ∈ S) (hj : 0 ≤ j ∧ j < cs.length) : RdIn (fun w => St w0 w S N H) (gE cs j).1.u.1 cellK.sz (gE cs j).2.length (cellK.all (gE cs j).2) :=
  rS (List.mem_append_left _ (h _ (gE_mem' hj)))
end
theorem d_Words {u : Value} {cs : List (Chk × List Cel)} (hL : cs.length ≤ 100) (hB : ∀ x ∈ cs, -1152921504606846976 ≤ x.1.a0 ∧ x.1.a0 ≤ 1152921504606846976 ∧ x.2.length ≤ 100) : Fn Tryz.prog 173 [u] (rdE chK u (cs.map (·.1)) :: cs.map fun x => rdE cellK x.1.u.1 x.2) ([]) (IsR pK 224 (wordsF cs cs.length)) := by
 refine Fn.enter Tryz.func173 (by kernel_rfl) rfl (n := 77) rfl rfl (fun w => ?_)
 have hG : ∀ x ∈ cs, rdE cellK x.1.u.1 x.2 ∈ (rdE chK u (cs.map (·.1)) :: cs.map fun x => rdE cellK x.1.u.1 x.2) := fun x hx => .tail _ (List.mem_map.2 ⟨x, hx, rfl⟩)
 have hml : (cs.map (·.1)).length = cs.length := List.length_map _
 refine W ?_
 refine At.nilRow pK 224 ?_
 refine At.loop3 (fun (i : Nat) (out : List (Int × Int)) (v : Value) => i ≤ cs.length ∧ out = wordsF cs i ∧ out.length ≤ 303 * i) (fun (i : Nat) (out : List (Int × Int)) (v : Value) => cs.length - i) (fun (i : Nat) (out : List (Int × Int)) (v : Value) => [(0, true, u), (3, true, v), (4, true, .int .i64 i)]) (fun (i : Nat) (out : List (Int × Int)) (v : Value) => [rowE pK 224 v out]) (fun (i : Nat) (out : List (Int × Int)) (v : Value) => []) (0) ([]) ((.slice none 0 0)) ⟨Nat.zero_le _, rfl, Nat.le_refl _⟩ (.cons rfl (.cons rfl (.cons rfl .nil))) (List.Sublist.refl _) rfl (fun i out v hi => ?_)
 obtain ⟨hi1, hi2, hi3⟩ := hi
 refine Z ?_
 refine At.condD (.t rfl) (fun c1 => ?_) (fun c1 => ?_)
 ·
  have hx := hB (gE cs (i : Int)) (gE_mem' (by omega))
  refine W ?_
  refine eA rfl (R.as (R.loadRdAgg (us := chK.enc _) Tryz.underlying237 rfl sz_237 (.t rfl) (rS M0) gO (fun hg => by exact Ek.getA (by omega))) (fun _ => congrArg (fun z : Chk => Value.agg (chK.enc z).toArray) (gE_map (fun x : Chk × List Cel => x.1) rfl cs (i : Int)))) ?_
  refine At.alloc rfl rfl rfl ze_237 (fun b1 hb1 => ⟨.all, ?_⟩)
  refine At.stAll (vs := [.int .i64 (gE cs (i : Int)).1.a0, .int .i64 (gE cs (i : Int)).1.a1, .int .i64 (gE cs (i : Int)).1.a2, .int .i64 (gE cs (i : Int)).1.a3, .int .i64 (gE cs (i : Int)).1.a4, .int .i64 (gE cs (i : Int)).1.a5, .int .i64 (gE cs (i : Int)).1.a6, .int .i64 (gE cs (i : Int)).1.a7, (gE cs (i : Int)).1.u.1]) rfl rfl sz_237 (.t rfl) (.t rfl) (hone9 (gE cs (i : Int)).1.u.2) rfl rfl (.n U0) ⟨.all, ?_⟩
  refine W ?_
  refine eA rfl (R.build bt_224 (.k rfl (.k rfl .nil)) (.cons rfl (.cons rfl .nil)) rfl) ?_
  refine W ?_
  refine eA rfl (R.build bt_224 (.k rfl (.k rfl .nil)) (.cons rfl (.cons rfl .nil)) rfl) ?_
  refine W ?_
  refine eA rfl (R.build bt_224 (.k rfl (.k rfl .nil)) (.cons rfl (.cons rfl .nil)) rfl) ?_
  refine At.lit (k := pK) rfl rfl rfl Tryz.underlying203 et_224 (.k rfl (.k rfl (.k rfl .nil))) (.cons (y := ⟨_, _⟩) rfl (.cons (y := ⟨_, _⟩) rfl (.cons (y := ⟨_, _⟩) rfl .nil))) rfl rfl rfl (fun v1 => ⟨.all, ?_⟩)
  refine At.app (k := pK) rfl rfl rfl Tryz.underlying203 et_224 (.t rfl) (.t rfl) (fun _ => by (exact U2)) (wN M0) (by (simp <;> omega)) (fun v2 => ⟨.all, ?_⟩)
  refine W ?_
  refine At.loop3 (fun (k : Nat) (o2 : List (Int × Int)) (v2 : Value) => k ≤ (gE cs (i : Int)).2.length ∧ o2 = out ++ [((gE cs (i : Int)).1.a0 + 0, (gE cs (i : Int)).1.a1), ((gE cs (i : Int)).1.a0 + 1, (gE cs (i : Int)).1.a2), ((gE cs (i : Int)).1.a0 + 2, (gE cs (i : Int)).1.a3)] ++ cellsW (gE cs (i : Int)).1.a0 (gE cs (i : Int)).2 k ∧ o2.length ≤ 303 * i + 3 + 3 * k) (fun (k : Nat) (o2 : List (Int × Int)) (v2 : Value) => (gE cs (i : Int)).2.length - k) (fun (k : Nat) (o2 : List (Int × Int)) (v2 : Value) => [(0, true, u), (3, true, v2), (4, true, .int .i64 i), (5, true, .pointer (some ⟨b1, 0, none⟩)), (6, true, .int .i64 k)]) (fun (k : Nat) (o2 : List (Int × Int)) (v2 : Value) => [.blk b1 (.cells #[.int .i64 (gE cs (i : Int)).1.a0, .int .i64 (gE cs (i : Int)).1.a1, .int .i64 (gE cs (i : Int)).1.a2, .int .i64 (gE cs (i : Int)).1.a3, .int .i64 (gE cs (i : Int)).1.a4, .int .i64 (gE cs (i : Int)).1.a5, .int .i64 (gE cs (i : Int)).1.a6, .int .i64 (gE cs (i : Int)).1.a7, (gE cs (i : Int)).1.u.1] 237), rowE pK 224 v2 o2]) (fun (k : Nat) (o2 : List (Int × Int)) (v2 : Value) => []) (0) (out ++ [((gE cs (i : Int)).1.a0 + 0, (gE cs (i : Int)).1.a1), ((gE cs (i : Int)).1.a0 + 1, (gE cs (i : Int)).1.a2), ((gE cs (i : Int)).1.a0 + 2, (gE cs (i : Int)).1.a3)]) (v2) ⟨Nat.zero_le _, (List.append_nil _).symm, by simp; omega⟩ (.cons rfl (.cons rfl (.cons rfl (.cons rfl (.cons rfl .nil))))) sl rfl (fun k o2 v2 hi => ?_)
  obtain ⟨hk1, ho2, ho3⟩ := hi
  refine U ?_
  refine eA rfl (R.lenRd Tryz.underlying235 (.t rfl) (by exact chNS hG (by omega))) ?_
  refine eA rfl (R.lss (.t rfl) (.t rfl)) ?_
  refine U ?_
  refine At.condD (.t rfl) (fun c2 => ?_) (fun c2 => ?_)
  ·
   refine U ?_
   refine eA rfl (R.indexRd Tryz.underlying235 sz_239 (.t rfl) (by exact chNS hG (by omega)) (.t rfl) gO) ?_
   refine eA rfl (R.loadRdAgg (us := cellK.enc _) Tryz.underlying239 rfl sz_239 (.t rfl) (by exact chNS hG (by omega)) gO (fun hg => by exact Ek.getA (by omega))) ?_
   refine At.alloc rfl rfl rfl ze_239 (fun b2 hb2 => ⟨.all, ?_⟩)
   refine At.stAll (vs := [.int .i64 (gE (gE cs (i : Int)).2 (k : Int)).state, .int .i64 (gE (gE cs (i : Int)).2 (k : Int)).key, .int .i64 (gE (gE cs (i : Int)).2 (k : Int)).data]) rfl rfl sz_239 (.t rfl) (.t rfl) rfl rfl rfl (.n U0) ⟨.all, ?_⟩
   refine W ?_
   refine eA rfl (R.build bt_239 .nil .nil rfl) ?_
   refine eA rfl (R.as (R.neqS fq_239 (.t rfl) (.t rfl) rfl) (fun _ => congrArg (fun b => Value.bool (!b)) (cellK_eqb (x := (gE (gE cs (i : Int)).2 (k : Int))) (y := ⟨0, 0, 0⟩)))) ?_
   refine W ?_
   refine At.condN (.t rfl) (fun c3 => ?_) (fun c3 => ?_)
   ·
    refine W ?_
    refine At.callVR rfl rfl rfl (.k rfl (.k rfl .nil)) (.nil) (fun hg => r_StateAt (by omega) (by omega)) .all ?_
    refine W ?_
    refine eA rfl (R.build bt_224 (.k rfl (.k rfl .nil)) (.cons rfl (.cons rfl .nil)) rfl) ?_
    refine W ?_
    refine eA rfl (R.build bt_224 (.k rfl (.k rfl .nil)) (.cons rfl (.cons rfl .nil)) rfl) ?_
    refine W ?_
    refine eA rfl (R.build bt_224 (.k rfl (.k rfl .nil)) (.cons rfl (.cons rfl .nil)) rfl) ?_
    refine At.lit (k := pK) rfl rfl rfl Tryz.underlying203 et_224 (.k rfl (.k rfl (.k rfl .nil))) (.cons (y := ⟨_, _⟩) rfl (.cons (y := ⟨_, _⟩) rfl (.cons (y := ⟨_, _⟩) rfl .nil))) rfl rfl rfl (fun v3 => ⟨.all, ?_⟩)
    refine At.app (k := pK) rfl rfl rfl Tryz.underlying203 et_224 (.t rfl) (.t rfl) (fun _ => by (exact U3)) (wN M0) (by (simp <;> omega)) (fun v4 => ⟨.all, ?_⟩)
    refine W ?_
    exact At.again3 (k + 1) (o2 ++ [((gE cs (i : Int)).1.a0 + 7 + 3 * (k : Int), (gE (gE cs (i : Int)).2 (k : Int)).state), ((gE cs (i : Int)).1.a0 + 7 + 3 * (k : Int) + 1, (gE (gE cs (i : Int)).2 (k : Int)).key), ((gE cs (i : Int)).1.a0 + 7 + 3 * (k : Int) + 2, (gE (gE cs (i : Int)).2 (k : Int)).data)]) (v4) ⟨by omega, by rw [ho2]; exact cellsW_yes (by simpa using c3), by simp; omega⟩ (by omega) (.cons rfl (.cons rfl (.cons rfl (.cons rfl (.cons rfl .nil))))) sl rfl
   ·
    refine W ?_
    exact At.again3 (k + 1) (o2) (v2) ⟨by omega, by rw [ho2, cellsW_no (by simpa using c3)], by omega⟩ (by omega) (.cons rfl (.cons rfl (.cons rfl (.cons rfl (.cons rfl .nil))))) sl rfl
  ·
   refine W ?_
   exact At.again3 (i + 1) (o2) (v2) ⟨by omega, by rw [ho2, show k = (gE cs (i : Int)).2.length from by omega]; exact wordsF_step (by omega) hi2, by omega⟩ (by omega) (.cons rfl (.cons rfl (.cons rfl .nil))) sl rfl
 ·
  refine W ?_
  exact At.final (N' := [rowE pK 224 v out]) rfl (.t rfl) (List.Sublist.refl _) (⟨by rw [show i = cs.length from by omega] at hi2; rw [hi2], rfl⟩)
end Go.Proofs.YtbolanigdkgbdaaGreat
namespace Go.Proofs.YtbolanigdkgbdaaGreat
open Go Go.RowKit
set_option linter.unusedVariables false
variable [Df]
section
variable {P : Program} {w0 : World} {n : Nat} {S N H : Hp} {l : Fr} {ops : Array Oper} {C : World → Prop} {K : Act → World → Prop} {r : List (Bool × Nat)} {i : Nat}
theorem Cl.perm {N N' : Hp} (hp : N.Perm N') (h : Cl w0 S N' H C) : Cl w0 S N H C := fun w hw => h w (hw.perm hp)
theorem At.callRG {d : Nat} {xs : List Operand} {ats : Array TypeId} {ty : TypeId} {pos : String} {af : Array Edge} {gd : Option (Nat × Bool)} {f : FuncId} {vs : List Value} {S' : Hp} {Eo E : TypeId} {G : List (List Itm)}
    (ho : ops[i]? = some ⟨some d, .call { callee := .value (.func f), args := xs.toArray, argTypes := ats }, ty, pos, af, gd⟩) (hdn : Nat.blt d n = true) (hg : wantG ops l ⟨some d, .call { callee := .value (.func f), args := xs.toArray, argTypes := ats }, ty, pos, af, gd⟩ = some true)
    (hxs : Evs n l true xs vs) (hS : Rds (fun w => St w0 w S N H) S') (hc : Fn P f vs S' [] (IsG Eo E G))
    (h : ∀ v (gs : List (SV × List Itm)), gs.map (·.2) = G → Cl w0 S (rowE sK Eo v (gs.map (·.1)) :: (N ++ seg iK E gs)) H C ∧ At w0 n S ((d, true, v) :: l) (rowE sK Eo v (gs.map (·.1)) :: (N ++ seg iK E gs)) H (wpSch P ops C K r)) : At w0 n S l N H (wpSch P ops C K ((false, i) :: r)) :=
  At.callP (fst := []) (cap := []) ho hdn hg Ev.f hxs (by simp) hc hS.all (fun v N' H' hR => by
    obtain ⟨gs, hgs, rfl, rfl⟩ := hR
    obtain ⟨h1, h2⟩ := h v gs hgs
    have hp : ((rowE sK Eo v (gs.map (·.1)) :: seg iK E gs) ++ N).Perm (rowE sK Eo v (gs.map (·.1)) :: (N ++ seg iK E gs)) := List.Perm.cons _ List.perm_append_comm
    exact ⟨rfl, h1.perm hp, At.perm hp h2⟩)
theorem At.callRC {d : Nat} {xs : List Operand} {ats : Array TypeId} {ty : TypeId} {pos : String} {af : Array Edge} {gd : Option (Nat × Bool)} {f : FuncId} {vs : List Value} {S' : Hp} {Eo E : TypeId} {L : List (List Int × List Cel)}
    (ho : ops[i]? = some ⟨some d, .call { callee := .value (.func f), args := xs.toArray, argTypes := ats }, ty, pos, af, gd⟩) (hdn : Nat.blt d n = true) (hg : wantG ops l ⟨some d, .call { callee := .value (.func f), args := xs.toArray, argTypes := ats }, ty, pos, af, gd⟩ = some true)
    (hxs : Evs n l true xs vs) (hS : Rds (fun w => St w0 w S N H) S') (hc : Fn P f vs S' [] (IsC Eo E L))
    (h : ∀ v (cs : List (Chk × List Cel)), cs.map (fun x => (hd x.1, x.2)) = L → Cl w0 S (rowE chK Eo v (cs.map (·.1)) :: (N ++ csg E cs)) H C ∧ At w0 n S ((d, true, v) :: l) (rowE chK Eo v (cs.map (·.1)) :: (N ++ csg E cs)) H (wpSch P ops C K r)) : At w0 n S l N H (wpSch P ops C K ((false, i) :: r)) :=
  At.callP (fst := []) (cap := []) ho hdn hg Ev.f hxs (by simp) hc hS.all (fun v N' H' hR => by
    obtain ⟨cs, hcs, rfl, rfl⟩ := hR
    obtain ⟨h1, h2⟩ := h v cs hcs
    have hp : ((rowE chK Eo v (cs.map (·.1)) :: csg E cs) ++ N).Perm (rowE chK Eo v (cs.map (·.1)) :: (N ++ csg E cs)) := List.Perm.cons _ List.perm_append_comm
    exact ⟨rfl, h1.perm hp, At.perm hp h2⟩)
theorem segAll {α : Type} {k : Ek α} {E : TypeId} {gs : List (SV × List α)} (hs : (seg k E gs).Sublist N) : ∀ x ∈ gs, RdIn (fun w => St w0 w S N H) x.1.1 k.sz x.2.length (k.all x.2) := fun x hx =>
  wS (E := E) (List.mem_append_right _ (List.mem_append_left _ (hs.subset (List.mem_map.2 ⟨x, hx, rfl⟩))))
end
theorem asN_snd (gs : List (SV × List Itm)) : (asN gs).map (fun x : Value × List Itm => x.2) = gs.map (·.2) := by simp [asN]
theorem asN_len (gs : List (SV × List Itm)) : (asN gs).length = gs.length := List.length_map _
theorem csLen {L : List (List Int × List Cel)} {cs : List (Chk × List Cel)} (h : cs.map (fun x => (hd x.1, x.2)) = L) : cs.length = L.length := by rw [← h, List.length_map]
theorem Rds.ofCs {C : World → Prop} {cs : List (Chk × List Cel)} {V : Value} (h0 : RdIn C V chK.sz (cs.map (fun x : Chk × List Cel => x.1)).length (chK.all (cs.map (fun x : Chk × List Cel => x.1)))) (h : ∀ x ∈ cs, RdIn C x.1.u.1 cellK.sz x.2.length (cellK.all x.2)) : Rds C (rdE chK V (cs.map (fun x : Chk × List Cel => x.1)) :: cs.map fun x => rdE cellK x.1.u.1 x.2) := by
  refine Rds.cons h0 ?_
  clear h0
  induction cs with
  | nil => exact .nil
  | cons x gs ih => exact Rds.cons (h x (by simp)) (ih fun y hy => h y (by simp [hy]))
theorem csgAll {w0 : World} {S N H : Hp} {E : TypeId} {cs : List (Chk × List Cel)} (hs : (csg E cs).Sublist N) : ∀ x ∈ cs, RdIn (fun w => St w0 w S N H) x.1.u.1 cellK.sz x.2.length (cellK.all x.2) := fun x hx =>
  wS (E := E) (List.mem_append_right _ (List.mem_append_left _ (hs.subset (List.mem_map.2 ⟨x, hx, rfl⟩))))
end Go.Proofs.YtbolanigdkgbdaaGreat
namespace Go.Proofs.YtbolanigdkgbdaaGreat
open Go Go.RowKit
set_option maxRecDepth 10000
set_option linter.unusedVariables false
set_option linter.unnecessarySimpa false
set_option maxHeartbeats 1000000
theorem bt_205 : buildTab Tryz.prog 205 = some (#[.int .i64 0, .int .i64 0, .int .i64 0, .int .i64 0, .int .i64 0, .int .i64 0, .int .i64 0, .slice none 0 0, .int .i64 0, .int .i64 0, .int .i64 0, .int .i64 0, .int .i64 0, .int .i64 0, .int .i64 0, .slice none 0 0, .slice none 0 0, .slice none 0 0, .int .i64 0, .int .i64 0], [(0, 4), (4, 1), (5, 1), (6, 1), (7, 1), (8, 1), (9, 1), (10, 1), (11, 1), (12, 3), (15, 1), (16, 1), (17, 1), (18, 1), (19, 1)]) := by kernel_rfl
theorem fo_205_0 : fieldOff? Tryz.prog 205 0 = some 0 := by kernel_rfl
theorem fo_205_10 : fieldOff? Tryz.prog 205 10 = some 15 := by kernel_rfl
theorem fo_205_11 : fieldOff? Tryz.prog 205 11 = some 16 := by kernel_rfl
theorem fo_205_2 : fieldOff? Tryz.prog 205 2 = some 5 := by kernel_rfl
theorem fo_205_4 : fieldOff? Tryz.prog 205 4 = some 7 := by kernel_rfl
theorem fo_205_5 : fieldOff? Tryz.prog 205 5 = some 8 := by kernel_rfl
theorem fo_205_6 : fieldOff? Tryz.prog 205 6 = some 9 := by kernel_rfl
theorem sz_202 : (Tryz.prog.info? 202).map (·.size) = some 1 := by kernel_rfl
theorem keepF_le (s : List Itm) (vs : List Int) : ∀ n, (keepF s vs n).length ≤ n
  | 0 => Nat.le_refl _
  | n + 1 => by
    have := keepF_le s vs n
    unfold keepF
    split
    · simp; omega
    · omega
structure Db where
  th : Int
  cap : Nat
  wd : Int
  ver : Int
  chunk : Int
  mate : Int
  after : Int
  line : Int
  i : Int
  min : Int
  at_ : Int
  xk : Int
  xv : Int
  xd : Int
  repl : Int
  e : Int
abbrev dbC (Vv Lv Gv Wv : Value) (x : Db) : Array Value := #[.int .i64 x.th, .int .i64 (x.cap : Int), .int .i64 x.wd, .int .i64 x.ver, .int .i64 x.chunk, .int .i64 x.mate, .int .i64 x.after, Vv, .int .i64 x.line, .int .i64 x.i, .int .i64 x.min, .int .i64 x.at_, .int .i64 x.xk, .int .i64 x.xv, .int .i64 x.xd, Lv, Gv, Wv, .int .i64 x.repl, .int .i64 x.e]
abbrev dbB (b : Nat) (Vv Lv Gv Wv : Value) (x : Db) : Ent := .blk b (.cells (dbC Vv Lv Gv Wv x) 205)
theorem db_New {th wd ver chunk mate after : Int} {cap : Nat} {Vv : Value} {vs : List Int} : FnX Tryz.prog 169 [.agg #[.int .i64 th, .int .i64 (cap : Int), .int .i64 wd, .int .i64 ver], .int .i64 chunk, .int .i64 mate, .int .i64 after, Vv] ([]) ([rowE zK 3 Vv vs]) (fun v N => ∃ b, v = .pointer (some ⟨b, 0, none⟩) ∧ N = [dbB b Vv (.slice none 0 0) (.slice none 0 0) (.slice none 0 0) (⟨th, cap, wd, ver, chunk, mate, after, 1, 0, 0, 0, 0, 0, 0, 0, 0⟩ : Db), rowE zK 3 Vv vs]) := by
 refine FnX.enter Tryz.func169 (by kernel_rfl) rfl (n := 18) rfl rfl (fun w df hds how => ?_)
 refine W ?_
 refine At.box rfl rfl rfl (.t rfl) (fun b1 hb1 => ⟨.all, ?_⟩)
 refine W ?_
 refine At.rowOne (v := Vv) (M1) (fun h1v => ?_)
 refine eA rfl (R.build (cs := [.int .i64 th, .int .i64 (cap : Int), .int .i64 wd, .int .i64 ver, .int .i64 chunk, .int .i64 mate, .int .i64 after, Vv, .int .i64 1, .int .i64 0, .int .i64 0, .int .i64 0, .int .i64 0, .int .i64 0, .int .i64 0, (.slice none 0 0), (.slice none 0 0), (.slice none 0 0), .int .i64 0, .int .i64 0]) bt_205 (.k rfl (.k rfl (.k rfl (.k rfl (.k rfl (.kc .nil)))))) (.cons rfl (.cons rfl (.cons rfl (.cons rfl (.cons (c := [_]) (cells_one h1v) (.cons rfl .nil)))))) rfl) ?_
 refine At.box rfl rfl rfl (.t rfl) (fun b2 hb2 => ⟨.all, ?_⟩)
 refine W ?_
 exact At.finalX (N' := [dbB b2 Vv (.slice none 0 0) (.slice none 0 0) (.slice none 0 0) (⟨th, cap, wd, ver, chunk, mate, after, 1, 0, 0, 0, 0, 0, 0, 0, 0⟩ : Db), rowE zK 3 Vv vs]) hds how rfl (.t rfl) sl (⟨b2, rfl, rfl⟩)
theorem db_nextA {b : Nat} {Vv Lv Gv Wv : Value} {x : Db} (hi0 : -1 ≤ x.i ∧ x.i ≤ 50000) (hcap : x.cap ≤ 16) (hc : x.i + 1 < cellsD (x.cap : Int) x.mate) : Fn Tryz.prog 171 [.pointer (some ⟨b, 0, none⟩)] ([]) ([dbB b Vv Lv Gv Wv x]) (IsM (.tuple #[]) [dbB b Vv Lv Gv Wv (⟨x.th, x.cap, x.wd, x.ver, x.chunk, x.mate, x.after, 2, (x.i + 1), x.min, x.at_, x.xk, x.xv, x.xd, x.repl, x.e⟩ : Db)]) := by
 refine Fn.enter Tryz.func171 (by kernel_rfl) rfl (n := 48) rfl rfl (fun w => ?_)
 refine W ?_
 refine At.st1 rfl rfl sz_3 (.t rfl) (.t rfl) rfl rfl (.h U0) ⟨.all, ?_⟩
 refine W ?_
 refine At.st1 rfl rfl sz_3 (.t rfl) .c rfl rfl (.h U0) ⟨.all, ?_⟩
 refine W ?_
 refine At.drawK [tt 0, tt 1, tt 2, tt 3, tt 4, tt 5, tt 6, tt 7, tt 8, tt 9, tt 10, tt 11, ff 12, tt 13] (by kernel_rfl) (by kernel_rfl) ?_
 refine W ?_
 refine At.callVR rfl rfl rfl (.k rfl (.k rfl .nil)) (.nil) (fun hg => d_cells (by omega)) kI ?_
 refine sJ rfl (R.as (R.geq (.t rfl) (.t rfl)) dF) ?_
 refine W ?_
 exact At.final0 rfl (List.nil_sublist _) (⟨rfl, rfl, rfl⟩) _ (.inr rfl)
theorem db_nextB {b : Nat} {Vv Lv Gv Wv : Value} {x : Db} {l : List Itm} {vs : List Int} (hi0 : -1 ≤ x.i ∧ x.i ≤ 50000) (hcap : x.cap ≤ 16) (hL : l.length ≤ 500) (hc : ¬ x.i + 1 < cellsD (x.cap : Int) x.mate) : FnX Tryz.prog 171 [.pointer (some ⟨b, 0, none⟩)] ([]) ([dbB b Vv Lv Gv Wv x, rowE zK 3 Vv vs, rowE iK 43 Lv l]) (fun v N => ∃ Gv2 gs, v = .tuple #[] ∧ gs.map (·.2) = splitR (max 2 (min (x.cap : Int) 16) / 2) [[]] (keepF (sortF l) vs (sortF l).length) ∧ N = rowE sK 40 Gv2 (gs.map (·.1)) :: dbB b Vv Lv Gv2 Wv (⟨x.th, x.cap, x.wd, x.ver, x.chunk, x.mate, x.after, 5, (x.i + 1), x.min, x.at_, x.xk, x.xv, x.xd, x.repl, x.e⟩ : Db) :: seg iK 43 gs) := by
 refine FnX.enter Tryz.func171 (by kernel_rfl) rfl (n := 48) rfl rfl (fun w df hds how => ?_)
 have hkl := keepF_le (sortF l) vs (sortF l).length
 have hsl := sortF_length l
 refine W ?_
 refine At.st1 rfl rfl sz_3 (.t rfl) (.t rfl) rfl rfl (.n U0) ⟨.all, ?_⟩
 refine W ?_
 refine At.st1 rfl rfl sz_3 (.t rfl) .c rfl rfl (.n U0) ⟨.all, ?_⟩
 refine W ?_
 refine At.drawK [tt 0, tt 1, tt 2, tt 3, tt 4, tt 5, tt 6, tt 7, tt 8, tt 9, tt 10, tt 11, ff 12, tt 13] (by kernel_rfl) (by kernel_rfl) ?_
 refine W ?_
 refine At.callVR rfl rfl rfl (.k rfl (.k rfl .nil)) (.nil) (fun hg => d_cells (by omega)) kI ?_
 refine sJ rfl (R.as (R.geq (.t rfl) (.t rfl)) dT) ?_
 refine W ?_
 refine At.re (N' := [dbB b Vv Lv Gv Wv (⟨x.th, x.cap, x.wd, x.ver, x.chunk, x.mate, x.after, 2, (x.i + 1), x.min, x.at_, x.xk, x.xv, x.xd, x.repl, x.e⟩ : Db), rowE zK 3 Vv vs, rowE iK 43 Lv l]) rfl ?_
 refine At.drawM ([dbB b Vv Lv Gv Wv (⟨x.th, x.cap, x.wd, x.ver, x.chunk, x.mate, x.after, 2, (x.i + 1), x.min, x.at_, x.xk, x.xv, x.xd, x.repl, x.e⟩ : Db), rowE zK 3 Vv vs, rowE iK 43 Lv l]) ([]) [(true, 0), (true, 1), (true, 2), (true, 3), (true, 5), (true, 6), (true, 7), (true, 10), (true, 11), (true, 12), (true, 13)] [(true, 4), (true, 8), (true, 14), (false, 9), (false, 15)] [(true, 16), (true, 17), (false, 18)] (by (exact fun _ h => h)) (fun _ h => nomatch h) (by kernel_rfl) (by kernel_rfl) ?_
 refine V ?_
 refine At.stage kI ?_
 refine W ?_
 refine At.callRF rfl rfl rfl (.k rfl (.k rfl .nil)) (by (exact .cons (wS M2) (.cons (wS M1) .nil))) (c_rKeep (by omega)) (fun v1 => ⟨kz, ?_⟩)
 refine At.callRG rfl rfl rfl (.k rfl (.k rfl .nil)) (.cons (wS M0) .nil) (c_rSplit (by omega)) (fun Gv2 gs hgs => ⟨kz, ?_⟩)
 refine At.stage Cl.none ?_
 refine W ?_
 refine At.rowOne (v := Gv2) (M0) (fun h1v => ?_)
 refine At.st1 rfl rfl sz_202 (.t rfl) (.t rfl) h1v rfl (.n U2) ⟨Cl.none, ?_⟩
 refine W ?_
 refine At.st1 rfl rfl sz_3 (.t rfl) .c rfl rfl (.n U2) ⟨.all, ?_⟩
 refine W ?_
 exact At.finalX0 (N' := rowE sK 40 Gv2 (gs.map (·.1)) :: dbB b Vv Lv Gv2 Wv (⟨x.th, x.cap, x.wd, x.ver, x.chunk, x.mate, x.after, 5, (x.i + 1), x.min, x.at_, x.xk, x.xv, x.xd, x.repl, x.e⟩ : Db) :: seg iK 43 gs) hds how rfl sl (⟨Gv2, gs, rfl, hgs, rfl⟩) _ (.inr rfl)
end Go.Proofs.YtbolanigdkgbdaaGreat
namespace Go.Proofs.YtbolanigdkgbdaaGreat
open Go Go.RowKit
set_option maxRecDepth 10000
set_option linter.unusedVariables false
set_option linter.unnecessarySimpa false
set_option maxHeartbeats 1000000
theorem fo_205_1 : fieldOff? Tryz.prog 205 1 = some 4 := by kernel_rfl
theorem fo_205_13 : fieldOff? Tryz.prog 205 13 = some 18 := by kernel_rfl
theorem fo_205_7 : fieldOff? Tryz.prog 205 7 = some 10 := by kernel_rfl
theorem fo_205_8 : fieldOff? Tryz.prog 205 8 = some 11 := by kernel_rfl
theorem fo_205_9 : fieldOff? Tryz.prog 205 9 = some 12 := by kernel_rfl
structure Db.ok (x : Db) : Prop where
  chunk : -1152921504606846976 ≤ x.chunk ∧ x.chunk ≤ 1152921504606846976
  mate : -1152921504606846976 ≤ x.mate ∧ x.mate ≤ 1152921504606846976
  after : -1152921504606846976 ≤ x.after ∧ x.after ≤ 1152921504606846976
  cap : 1 ≤ x.cap ∧ x.cap ≤ 16
  ii : -1 ≤ x.i ∧ x.i ≤ 50000
theorem cellAtD_bd (c : Int) {chunk mate i : Int} (h0 : -1152921504606846976 ≤ chunk ∧ chunk ≤ 1152921504606846976) (h1 : -1152921504606846976 ≤ mate ∧ mate ≤ 1152921504606846976) (hc : 0 ≤ c ∧ c ≤ 16) (hi : -1 ≤ i ∧ i ≤ 50000) : -1152921504606847976 ≤ cellAtD c chunk mate i ∧ cellAtD c chunk mate i ≤ 1152921504607857976 := by unfold cellAtD; split <;> omega
theorem cells_pos {cap : Nat} {mate : Int} (h : 1 ≤ cap) : (-1 : Int) + 1 < cellsD (cap : Int) mate := by unfold cellsD; split <;> omega
theorem d_cellAt2 {a b c d chunk mate i : Int} (h0 : -1152921504606846976 ≤ chunk ∧ chunk ≤ 1152921504606846976) (h1 : -1152921504606846976 ≤ mate ∧ mate ≤ 1152921504606846976) (h2 : -100000 ≤ i ∧ i ≤ 100000) (h3 : 0 ≤ b ∧ b ≤ 1000) : Fn Tryz.prog 164 [.agg #[.int .i64 a, .int .i64 b, .int .i64 c, .int .i64 d], .int .i64 chunk, .int .i64 mate, .int .i64 i] ([]) ([]) (IsV (.int .i64 (cellAtD b chunk mate i))) := by
 refine Fn.enter Tryz.func164 (by kernel_rfl) rfl (n := 22) rfl rfl (fun w => ?_)
 refine W ?_
 refine At.box rfl rfl rfl (.t rfl) (fun b1 hb1 => ⟨.all, ?_⟩)
 refine Z ?_
 refine At.condD (.t rfl) (fun c1 => ?_) (fun c1 => ?_)
 ·
  refine W ?_
  refine At.callVR rfl rfl rfl (.k rfl (.k rfl .nil)) (.nil) (fun hg => r_StateAt (by omega) (by omega)) .all ?_
  refine W ?_
  exact fT rfl (.t rfl) (⟨congrArg (Value.int .i64) (by unfold cellAtD; rw [if_pos c1]), rfl, rfl⟩)
 ·
  refine W ?_
  refine At.callVR rfl rfl rfl (.k rfl (.k rfl .nil)) (.nil) (fun hg => r_StateAt (by omega) (by omega)) .all ?_
  refine W ?_
  exact fT rfl (.t rfl) (⟨congrArg (Value.int .i64) (by unfold cellAtD; rw [if_neg c1]), rfl, rfl⟩)
theorem db_Step1 {b ba n : Nat} {wv Vv Lv Gv Wv : Value} {x : Db} {r : Rr} (hx : x.ok) (hl : x.line = 1) (hn : r.w.length = n) (hN : n ≤ 1000000) (hf : r.few) (hw : r.mid 1152921504606846976) : Fn Tryz.prog 147 [.pointer (some ⟨b, 0, none⟩), .pointer (some ⟨ba, 0, none⟩)] ([]) ([dbB b Vv Lv Gv Wv x, raB ba wv r, raW wv n r]) (IsM (.bool false) [dbB b Vv Lv Gv Wv (⟨x.th, x.cap, x.wd, x.ver, x.chunk, x.mate, x.after, 2, (-1 + 1), (r.peek x.chunk), x.at_, x.xk, x.xv, x.xd, x.repl, x.e⟩ : Db), raB ba wv (r.load x.chunk), raW wv n (r.load x.chunk)]) := by
 refine Fn.enter Tryz.func147 (by kernel_rfl) rfl (n := 267) rfl rfl (fun w => ?_)
 obtain ⟨hx1, hx2, hx3, hx4, hx5⟩ := hx
 have hat := cellAtD_bd (x.cap : Int) hx1 hx2 (show 0 ≤ (x.cap : Int) ∧ (x.cap : Int) ≤ 16 by omega) hx5
 refine W ?_
 refine At.drawK [tt 0, tt 1, tt 2, tt 3, tt 4, tt 5, tt 6, tt 7, tt 8, tt 9, tt 10, tt 11, tt 12, tt 13, tt 14, tt 15, ff 16, tt 17] (by kernel_rfl) (by kernel_rfl) ?_
 refine W ?_
 refine At.callVR rfl rfl rfl (.k rfl (.k rfl (.k rfl (.k rfl .nil)))) (.nil) (fun hg => d_cellAt2 (by omega) (by omega) (by omega) (by omega)) kI ?_
 refine U ?_
 refine eA rfl (R.as (R.eql (.t rfl) .c) dT) ?_
 refine U ?_
 refine At.e rfl rfl rfl rfl .all (R.as (R.addI (.t rfl) .c (fun hg => by omega)) (fun _ => congrArg (Value.int .i64) (Int.add_zero x.chunk))) ?_
 refine cM rfl rfl rfl (.k rfl (.k rfl .nil)) rfl (.h (.skip (.take (.take .nil)))) .nil (r_Load (r := r) (i := x.chunk) hn hN hf) keysRa .nil ⟨.all, ?_⟩
 refine W ?_
 refine At.st1 rfl rfl sz_3 (.t rfl) (.t rfl) rfl rfl (.h U0) ⟨.all, ?_⟩
 refine W ?_
 refine At.st1 rfl rfl sz_3 (.t rfl) .c rfl rfl (.h U0) ⟨.all, ?_⟩
 refine W ?_
 refine cM rfl rfl rfl (.k rfl .nil) rfl (.h (.take .nil)) .nil (db_nextA (x := (⟨x.th, x.cap, x.wd, x.ver, x.chunk, x.mate, x.after, x.line, (-1), (r.peek x.chunk), x.at_, x.xk, x.xv, x.xd, x.repl, x.e⟩ : Db)) (by dsimp only; omega) hx4.2 (cells_pos hx4.1)) rfl .nil ⟨.all, ?_⟩
 refine Z ?_
 exact fT rfl (.t rfl) (⟨rfl, rfl, rfl⟩)
theorem db_Step2 {b ba n : Nat} {wv Vv Lv Gv Wv : Value} {x : Db} {r : Rr} (hx : x.ok) (hl : x.line = 2) (hn : r.w.length = n) (hN : n ≤ 1000000) (hf : r.few) (hw : r.mid 1152921504606846976) (hs : ¬ (r.peek (cellAtD (x.cap : Int) x.chunk x.mate x.i)) < 3) : Fn Tryz.prog 147 [.pointer (some ⟨b, 0, none⟩), .pointer (some ⟨ba, 0, none⟩)] ([]) ([dbB b Vv Lv Gv Wv x, raB ba wv r, raW wv n r]) (IsM (.bool false) [dbB b Vv Lv Gv Wv (⟨x.th, x.cap, x.wd, x.ver, x.chunk, x.mate, x.after, 3, x.i, x.min, x.at_, 0, (verD (r.peek (cellAtD (x.cap : Int) x.chunk x.mate x.i))), 0, x.repl, x.e⟩ : Db), raB ba wv (r.load (cellAtD (x.cap : Int) x.chunk x.mate x.i)), raW wv n (r.load (cellAtD (x.cap : Int) x.chunk x.mate x.i))]) := by
 refine Fn.enter Tryz.func147 (by kernel_rfl) rfl (n := 267) rfl rfl (fun w => ?_)
 obtain ⟨hx1, hx2, hx3, hx4, hx5⟩ := hx
 have hat := cellAtD_bd (x.cap : Int) hx1 hx2 (show 0 ≤ (x.cap : Int) ∧ (x.cap : Int) ≤ 16 by omega) hx5
 refine W ?_
 refine At.drawK [tt 0, tt 1, tt 2, tt 3, tt 4, tt 5, tt 6, tt 7, tt 8, tt 9, tt 10, tt 11, tt 12, tt 13, tt 14, tt 15, ff 16, tt 17] (by kernel_rfl) (by kernel_rfl) ?_
 refine W ?_
 refine At.callVR rfl rfl rfl (.k rfl (.k rfl (.k rfl (.k rfl .nil)))) (.nil) (fun hg => d_cellAt2 (by omega) (by omega) (by omega) (by omega)) kI ?_
 refine Y ?_
 refine cM rfl rfl rfl (.k rfl (.k rfl .nil)) rfl (.h (.skip (.take (.take .nil)))) .nil (r_Load (r := r) (i := (cellAtD (x.cap : Int) x.chunk x.mate x.i)) hn hN hf) keysRa .nil ⟨.all, ?_⟩
 refine W ?_
 refine At.callVR rfl rfl rfl (.k rfl .nil) (.nil) (fun hg => r_Version (by have := Rr.peek_mid hw (by decide) (cellAtD (x.cap : Int) x.chunk x.mate x.i); omega)) .all ?_
 refine eA rfl (R.build bt_43 (.k rfl .nil) (.cons rfl .nil) rfl) ?_
 refine W ?_
 refine At.stN rfl rfl sz_43 (.t rfl) (.t rfl) rfl rfl rfl (.h U0) ⟨.all, ?_⟩
 refine W ?_
 refine At.st1 rfl rfl sz_3 (.t rfl) .c rfl rfl (.h U0) ⟨.all, ?_⟩
 refine W ?_
 refine eA rfl (R.as (R.lss (.t rfl) .c) dF) ?_
 refine W ?_
 refine eA rfl (R.as (R.eql (.t rfl) .c) dF) ?_
 refine W ?_
 exact fT rfl (.t rfl) (⟨rfl, rfl, rfl⟩)
theorem db_Step2a {b ba n : Nat} {wv Vv Lv Gv Wv : Value} {x : Db} {r : Rr} (hx : x.ok) (hl : x.line = 2) (hn : r.w.length = n) (hN : n ≤ 1000000) (hf : r.few) (hw : r.mid 1152921504606846976) (hs : (r.peek (cellAtD (x.cap : Int) x.chunk x.mate x.i)) < 3) (hc : x.i + 1 < cellsD (x.cap : Int) x.mate) : Fn Tryz.prog 147 [.pointer (some ⟨b, 0, none⟩), .pointer (some ⟨ba, 0, none⟩)] ([]) ([dbB b Vv Lv Gv Wv x, raB ba wv r, raW wv n r]) (IsM (.bool false) [dbB b Vv Lv Gv Wv (⟨x.th, x.cap, x.wd, x.ver, x.chunk, x.mate, x.after, 2, (x.i + 1), x.min, x.at_, 0, (verD (r.peek (cellAtD (x.cap : Int) x.chunk x.mate x.i))), 0, x.repl, x.e⟩ : Db), raB ba wv (r.load (cellAtD (x.cap : Int) x.chunk x.mate x.i)), raW wv n (r.load (cellAtD (x.cap : Int) x.chunk x.mate x.i))]) := by
 refine Fn.enter Tryz.func147 (by kernel_rfl) rfl (n := 267) rfl rfl (fun w => ?_)
 obtain ⟨hx1, hx2, hx3, hx4, hx5⟩ := hx
 have hat := cellAtD_bd (x.cap : Int) hx1 hx2 (show 0 ≤ (x.cap : Int) ∧ (x.cap : Int) ≤ 16 by omega) hx5
 refine W ?_
 refine At.drawK [tt 0, tt 1, tt 2, tt 3, tt 4, tt 5, tt 6, tt 7, tt 8, tt 9, tt 10, tt 11, tt 12, tt 13, tt 14, tt 15, ff 16, tt 17] (by kernel_rfl) (by kernel_rfl) ?_
 refine W ?_
 refine At.callVR rfl rfl rfl (.k rfl (.k rfl (.k rfl (.k rfl .nil)))) (.nil) (fun hg => d_cellAt2 (by omega) (by omega) (by omega) (by omega)) kI ?_
 refine Y ?_
 refine cM rfl rfl rfl (.k rfl (.k rfl .nil)) rfl (.h (.skip (.take (.take .nil)))) .nil (r_Load (r := r) (i := (cellAtD (x.cap : Int) x.chunk x.mate x.i)) hn hN hf) keysRa .nil ⟨.all, ?_⟩
 refine W ?_
 refine At.callVR rfl rfl rfl (.k rfl .nil) (.nil) (fun hg => r_Version (by have := Rr.peek_mid hw (by decide) (cellAtD (x.cap : Int) x.chunk x.mate x.i); omega)) .all ?_
 refine eA rfl (R.build bt_43 (.k rfl .nil) (.cons rfl .nil) rfl) ?_
 refine W ?_
 refine At.stN rfl rfl sz_43 (.t rfl) (.t rfl) rfl rfl rfl (.h U0) ⟨.all, ?_⟩
 refine W ?_
 refine At.st1 rfl rfl sz_3 (.t rfl) .c rfl rfl (.h U0) ⟨.all, ?_⟩
 refine W ?_
 refine eA rfl (R.as (R.lss (.t rfl) .c) dT) ?_
 refine W ?_
 refine cM rfl rfl rfl (.k rfl .nil) rfl (.h (.take .nil)) .nil (db_nextA (x := (⟨x.th, x.cap, x.wd, x.ver, x.chunk, x.mate, x.after, 3, x.i, x.min, x.at_, 0, (verD (r.peek (cellAtD (x.cap : Int) x.chunk x.mate x.i))), 0, x.repl, x.e⟩ : Db)) (by dsimp only; omega) hx4.2 hc) rfl .nil ⟨.all, ?_⟩
 refine Z ?_
 exact fT rfl (.t rfl) (⟨rfl, rfl, rfl⟩)
theorem db_Step3 {b ba n : Nat} {wv Vv Lv Gv Wv : Value} {x : Db} {r : Rr} (hx : x.ok) (hl : x.line = 3) (hn : r.w.length = n) (hN : n ≤ 1000000) (hf : r.few) (hw : r.mid 1152921504606846976) : Fn Tryz.prog 147 [.pointer (some ⟨b, 0, none⟩), .pointer (some ⟨ba, 0, none⟩)] ([]) ([dbB b Vv Lv Gv Wv x, raB ba wv r, raW wv n r]) (IsM (.bool false) [dbB b Vv Lv Gv Wv (⟨x.th, x.cap, x.wd, x.ver, x.chunk, x.mate, x.after, 4, x.i, x.min, x.at_, (r.peek ((cellAtD (x.cap : Int) x.chunk x.mate x.i) + 1)), x.xv, x.xd, x.repl, x.e⟩ : Db), raB ba wv (r.load ((cellAtD (x.cap : Int) x.chunk x.mate x.i) + 1)), raW wv n (r.load ((cellAtD (x.cap : Int) x.chunk x.mate x.i) + 1))]) := by
 refine Fn.enter Tryz.func147 (by kernel_rfl) rfl (n := 267) rfl rfl (fun w => ?_)
 obtain ⟨hx1, hx2, hx3, hx4, hx5⟩ := hx
 have hat := cellAtD_bd (x.cap : Int) hx1 hx2 (show 0 ≤ (x.cap : Int) ∧ (x.cap : Int) ≤ 16 by omega) hx5
 refine W ?_
 refine At.drawK [tt 0, tt 1, tt 2, tt 3, tt 4, tt 5, tt 6, tt 7, tt 8, tt 9, tt 10, tt 11, tt 12, tt 13, tt 14, tt 15, ff 16, tt 17] (by kernel_rfl) (by kernel_rfl) ?_
 refine W ?_
 refine At.callVR rfl rfl rfl (.k rfl (.k rfl (.k rfl (.k rfl .nil)))) (.nil) (fun hg => d_cellAt2 (by omega) (by omega) (by omega) (by omega)) kI ?_
 refine Y ?_
 refine cM rfl rfl rfl (.k rfl (.k rfl .nil)) rfl (.h (.skip (.take (.take .nil)))) .nil (r_Load (r := r) (i := (cellAtD (x.cap : Int) x.chunk x.mate x.i) + 1) hn hN hf) keysRa .nil ⟨.all, ?_⟩
 refine W ?_
 refine At.st1 rfl rfl sz_3 (.t rfl) (.t rfl) rfl rfl (.h U0) ⟨.all, ?_⟩
 refine W ?_
 refine At.st1 rfl rfl sz_3 (.t rfl) .c rfl rfl (.h U0) ⟨.all, ?_⟩
 refine Y ?_
 exact fT rfl (.t rfl) (⟨rfl, rfl, rfl⟩)
theorem db_Step7 {b ba n : Nat} {wv Vv Lv Gv Wv : Value} {x : Db} {r : Rr} (hx : x.ok) (hl : x.line = 7) (hn : r.w.length = n) (hN : n ≤ 1000000) (hf : r.few) (hw : r.mid 1152921504606846976) : Fn Tryz.prog 147 [.pointer (some ⟨b, 0, none⟩), .pointer (some ⟨ba, 0, none⟩)] ([]) ([dbB b Vv Lv Gv Wv x, raB ba wv r, raW wv n r]) (IsM (.bool false) [dbB b Vv Lv Gv Wv (⟨x.th, x.cap, x.wd, x.ver, x.chunk, x.mate, x.after, 8, x.i, x.min, x.at_, x.xk, x.xv, x.xd, x.repl, x.e⟩ : Db), raB ba wv (r.swap (x.chunk + 5) 0 x.at_), raW wv n (r.swap (x.chunk + 5) 0 x.at_)]) := by
 refine Fn.enter Tryz.func147 (by kernel_rfl) rfl (n := 267) rfl rfl (fun w => ?_)
 obtain ⟨hx1, hx2, hx3, hx4, hx5⟩ := hx
 have hat := cellAtD_bd (x.cap : Int) hx1 hx2 (show 0 ≤ (x.cap : Int) ∧ (x.cap : Int) ≤ 16 by omega) hx5
 refine W ?_
 refine At.drawK [tt 0, tt 1, tt 2, tt 3, tt 4, tt 5, tt 6, tt 7, tt 8, tt 9, tt 10, tt 11, tt 12, tt 13, tt 14, tt 15, ff 16, tt 17] (by kernel_rfl) (by kernel_rfl) ?_
 refine W ?_
 refine At.callVR rfl rfl rfl (.k rfl (.k rfl (.k rfl (.k rfl .nil)))) (.nil) (fun hg => d_cellAt2 (by omega) (by omega) (by omega) (by omega)) kI ?_
 refine Y ?_
 refine At.drawL ([dbB b Vv Lv Gv Wv x]) [tt 0, tt 1, tt 2, tt 3, tt 4, tt 5, tt 6, tt 7, tt 8, tt 9] [] [ff 10] (keepOf sl) (by kernel_rfl) (by kernel_rfl) ?_
 refine V ?_
 refine At.stage kI ?_
 refine At.stage kz ?_
 refine cM rfl rfl rfl (.k rfl (.k rfl (.kc (.k rfl .nil)))) rfl (.h (.skip (.take (.take .nil)))) .nil (r_Swap (r := r) (i := x.chunk + 5) (o := 0) (x := x.at_) hn hN hf) keysRa .nil ⟨kz, ?_⟩
 refine W ?_
 refine At.st1 rfl rfl sz_3 (.t rfl) .c rfl rfl (.h U0) ⟨.all, ?_⟩
 refine Y ?_
 exact fT rfl (.t rfl) (⟨rfl, rfl, rfl⟩)
theorem db_Step8 {b ba n : Nat} {wv Vv Lv Gv Wv : Value} {x : Db} {r : Rr} (hx : x.ok) (hl : x.line = 8) (hn : r.w.length = n) (hN : n ≤ 1000000) (hf : r.few) (hw : r.mid 1152921504606846976) : Fn Tryz.prog 147 [.pointer (some ⟨b, 0, none⟩), .pointer (some ⟨ba, 0, none⟩)] ([]) ([dbB b Vv Lv Gv Wv x, raB ba wv r, raW wv n r]) (IsM (.bool true) [dbB b Vv Lv Gv Wv (⟨x.th, x.cap, x.wd, x.ver, x.chunk, x.mate, x.after, 0, x.i, x.min, x.at_, x.xk, x.xv, x.xd, (r.peek (x.chunk + 5)), x.e⟩ : Db), raB ba wv (r.load (x.chunk + 5)), raW wv n (r.load (x.chunk + 5))]) := by
 refine Fn.enter Tryz.func147 (by kernel_rfl) rfl (n := 267) rfl rfl (fun w => ?_)
 obtain ⟨hx1, hx2, hx3, hx4, hx5⟩ := hx
 have hat := cellAtD_bd (x.cap : Int) hx1 hx2 (show 0 ≤ (x.cap : Int) ∧ (x.cap : Int) ≤ 16 by omega) hx5
 refine W ?_
 refine At.drawK [tt 0, tt 1, tt 2, tt 3, tt 4, tt 5, tt 6, tt 7, tt 8, tt 9, tt 10, tt 11, tt 12, tt 13, tt 14, tt 15, ff 16, tt 17] (by kernel_rfl) (by kernel_rfl) ?_
 refine W ?_
 refine At.callVR rfl rfl rfl (.k rfl (.k rfl (.k rfl (.k rfl .nil)))) (.nil) (fun hg => d_cellAt2 (by omega) (by omega) (by omega) (by omega)) kI ?_
 refine Y ?_
 refine cM rfl rfl rfl (.k rfl (.k rfl .nil)) rfl (.h (.skip (.take (.take .nil)))) .nil (r_Load (r := r) (i := x.chunk + 5) hn hN hf) keysRa .nil ⟨.all, ?_⟩
 refine W ?_
 refine At.st1 rfl rfl sz_3 (.t rfl) (.t rfl) rfl rfl (.h U0) ⟨.all, ?_⟩
 refine W ?_
 refine At.st1 rfl rfl sz_3 (.t rfl) .c rfl rfl (.h U0) ⟨.all, ?_⟩
 refine Y ?_
 exact fT rfl (.t rfl) (⟨rfl, rfl, rfl⟩)
theorem db_Step2b {l : List Itm} {vs : List Int} (hL : l.length ≤ 400) {b ba n : Nat} {wv Vv Lv Gv Wv : Value} {x : Db} {r : Rr} (hx : x.ok) (hl : x.line = 2) (hn : r.w.length = n) (hN : n ≤ 1000000) (hf : r.few) (hw : r.mid 1152921504606846976) (hs : (r.peek (cellAtD (x.cap : Int) x.chunk x.mate x.i)) < 3) (hc : ¬ x.i + 1 < cellsD (x.cap : Int) x.mate) : FnX Tryz.prog 147 [.pointer (some ⟨b, 0, none⟩), .pointer (some ⟨ba, 0, none⟩)] ([]) ([dbB b Vv Lv Gv Wv x, raB ba wv r, raW wv n r, rowE zK 3 Vv vs, rowE iK 43 Lv l]) (fun v N => ∃ Lv2 Gv2 gs, v = .bool false ∧ gs.map (·.2) = splitR (max 2 (min (x.cap : Int) 16) / 2) [[]] (keepF (sortF l) vs (sortF l).length) ∧ N = rowE sK 40 Gv2 (gs.map (·.1)) :: dbB b Vv Lv2 Gv2 Wv (⟨x.th, x.cap, x.wd, x.ver, x.chunk, x.mate, x.after, 5, (x.i + 1), x.min, x.at_, 0, (verD (r.peek (cellAtD (x.cap : Int) x.chunk x.mate x.i))), 0, x.repl, x.e⟩ : Db) :: raB ba wv (r.load (cellAtD (x.cap : Int) x.chunk x.mate x.i)) :: raW wv n (r.load (cellAtD (x.cap : Int) x.chunk x.mate x.i)) :: seg iK 43 gs) := by
 refine FnX.enter Tryz.func147 (by kernel_rfl) rfl (n := 267) rfl rfl (fun w df hds how => ?_)
 obtain ⟨hx1, hx2, hx3, hx4, hx5⟩ := hx
 have hat := cellAtD_bd (x.cap : Int) hx1 hx2 (show 0 ≤ (x.cap : Int) ∧ (x.cap : Int) ≤ 16 by omega) hx5
 refine W ?_
 refine At.drawK [tt 0, tt 1, tt 2, tt 3, tt 4, tt 5, tt 6, tt 7, tt 8, tt 9, tt 10, tt 11, tt 12, tt 13, tt 14, tt 15, ff 16, tt 17] (by kernel_rfl) (by kernel_rfl) ?_
 refine W ?_
 refine At.callVR rfl rfl rfl (.k rfl (.k rfl (.k rfl (.k rfl .nil)))) (.nil) (fun hg => d_cellAt2 (by omega) (by omega) (by omega) (by omega)) kI ?_
 refine Y ?_
 refine cM rfl rfl rfl (.k rfl (.k rfl .nil)) rfl (.n (.skip (.take (.take .nil)))) .nil (r_Load (r := r) (i := (cellAtD (x.cap : Int) x.chunk x.mate x.i)) hn hN hf) keysRa .nil ⟨.all, ?_⟩
 refine W ?_
 refine At.callVR rfl rfl rfl (.k rfl .nil) (.nil) (fun hg => r_Version (by have := Rr.peek_mid hw (by decide) (cellAtD (x.cap : Int) x.chunk x.mate x.i); omega)) .all ?_
 refine eA rfl (R.build bt_43 (.k rfl .nil) (.cons rfl .nil) rfl) ?_
 refine W ?_
 refine At.stN rfl rfl sz_43 (.t rfl) (.t rfl) rfl rfl rfl (.n U0) ⟨.all, ?_⟩
 refine W ?_
 refine At.st1 rfl rfl sz_3 (.t rfl) .c rfl rfl (.n U0) ⟨.all, ?_⟩
 refine W ?_
 refine eA rfl (R.as (R.lss (.t rfl) .c) dT) ?_
 refine W ?_
 refine cX rfl rfl rfl (.k rfl .nil) rfl (.take (.skip (.skip (.take (.take .nil))))) .nil (db_nextB (x := (⟨x.th, x.cap, x.wd, x.ver, x.chunk, x.mate, x.after, 3, x.i, x.min, x.at_, 0, (verD (r.peek (cellAtD (x.cap : Int) x.chunk x.mate x.i))), 0, x.repl, x.e⟩ : Db)) (Lv := Lv) (l := l) (vs := vs) (by dsimp only; omega) hx4.2 (by omega) hc) Aprt.nil (fun v B hR => ⟨.all, ?_⟩); obtain ⟨Gv2, gs, rfl, hgs, rfl⟩ := hR; refine At.re (N' := _ :: _ :: (seg iK 43 gs ++ [raB ba wv (r.load (cellAtD (x.cap : Int) x.chunk x.mate x.i)), raW wv n (r.load (cellAtD (x.cap : Int) x.chunk x.mate x.i))])) rfl ?_; refine At.perm (N' := rowE sK 40 Gv2 (gs.map (·.1)) :: dbB b Vv Lv Gv2 Wv (⟨x.th, x.cap, x.wd, x.ver, x.chunk, x.mate, x.after, 5, (x.i + 1), x.min, x.at_, 0, (verD (r.peek (cellAtD (x.cap : Int) x.chunk x.mate x.i))), 0, x.repl, x.e⟩ : Db) :: raB ba wv (r.load (cellAtD (x.cap : Int) x.chunk x.mate x.i)) :: raW wv n (r.load (cellAtD (x.cap : Int) x.chunk x.mate x.i)) :: seg iK 43 gs) (List.Perm.cons _ (List.Perm.cons _ List.perm_append_comm)) ?_
 refine Z ?_
 exact At.finalX (N' := rowE sK 40 Gv2 (gs.map (·.1)) :: dbB b Vv Lv Gv2 Wv (⟨x.th, x.cap, x.wd, x.ver, x.chunk, x.mate, x.after, 5, (x.i + 1), x.min, x.at_, 0, (verD (r.peek (cellAtD (x.cap : Int) x.chunk x.mate x.i))), 0, x.repl, x.e⟩ : Db) :: raB ba wv (r.load (cellAtD (x.cap : Int) x.chunk x.mate x.i)) :: raW wv n (r.load (cellAtD (x.cap : Int) x.chunk x.mate x.i)) :: seg iK 43 gs) hds how rfl (.t rfl) (List.Sublist.refl _) (⟨Lv, Gv2, gs, rfl, hgs, rfl⟩)
theorem db_Step4a {l : List Itm} {vs : List Int} (hL : l.length ≤ 400) {b ba n : Nat} {wv Vv Lv Gv Wv : Value} {x : Db} {r : Rr} (hx : x.ok) (hl : x.line = 4) (hn : r.w.length = n) (hN : n ≤ 1000000) (hf : r.few) (hw : r.mid 1152921504606846976) (hc : x.i + 1 < cellsD (x.cap : Int) x.mate) : FnX Tryz.prog 147 [.pointer (some ⟨b, 0, none⟩), .pointer (some ⟨ba, 0, none⟩)] ([]) ([dbB b Vv Lv Gv Wv x, raB ba wv r, raW wv n r, rowE zK 3 Vv vs, rowE iK 43 Lv l]) (fun v N => ∃ Lv2, v = .bool false ∧ N = [dbB b Vv Lv2 Gv Wv (⟨x.th, x.cap, x.wd, x.ver, x.chunk, x.mate, x.after, 2, (x.i + 1), x.min, x.at_, x.xk, x.xv, (r.peek ((cellAtD (x.cap : Int) x.chunk x.mate x.i) + 2)), x.repl, x.e⟩ : Db), raB ba wv (r.load ((cellAtD (x.cap : Int) x.chunk x.mate x.i) + 2)), raW wv n (r.load ((cellAtD (x.cap : Int) x.chunk x.mate x.i) + 2)), rowE zK 3 Vv vs, rowE iK 43 Lv2 (l ++ [(⟨x.xk, x.xv, (r.peek ((cellAtD (x.cap : Int) x.chunk x.mate x.i) + 2))⟩ : Itm)])]) := by
 refine FnX.enter Tryz.func147 (by kernel_rfl) rfl (n := 267) rfl rfl (fun w df hds how => ?_)
 obtain ⟨hx1, hx2, hx3, hx4, hx5⟩ := hx
 have hat := cellAtD_bd (x.cap : Int) hx1 hx2 (show 0 ≤ (x.cap : Int) ∧ (x.cap : Int) ≤ 16 by omega) hx5
 refine W ?_
 refine At.drawK [tt 0, tt 1, tt 2, tt 3, tt 4, tt 5, tt 6, tt 7, tt 8, tt 9, tt 10, tt 11, tt 12, tt 13, tt 14, tt 15, ff 16, tt 17] (by kernel_rfl) (by kernel_rfl) ?_
 refine W ?_
 refine At.callVR rfl rfl rfl (.k rfl (.k rfl (.k rfl (.k rfl .nil)))) (.nil) (fun hg => d_cellAt2 (by omega) (by omega) (by omega) (by omega)) kI ?_
 refine Y ?_
 refine cM rfl rfl rfl (.k rfl (.k rfl .nil)) rfl (.n (.skip (.take (.take .nil)))) .nil (r_Load (r := r) (i := (cellAtD (x.cap : Int) x.chunk x.mate x.i) + 2) hn hN hf) keysRa .nil ⟨.all, ?_⟩
 refine W ?_
 refine At.st1 rfl rfl sz_3 (.t rfl) (.t rfl) rfl rfl (.n U0) ⟨.all, ?_⟩
 refine W ?_
 refine At.re (N' := [dbB b Vv Lv Gv Wv (⟨x.th, x.cap, x.wd, x.ver, x.chunk, x.mate, x.after, x.line, x.i, x.min, x.at_, x.xk, x.xv, (r.peek ((cellAtD (x.cap : Int) x.chunk x.mate x.i) + 2)), x.repl, x.e⟩ : Db), raB ba wv (r.load ((cellAtD (x.cap : Int) x.chunk x.mate x.i) + 2)), raW wv n (r.load ((cellAtD (x.cap : Int) x.chunk x.mate x.i) + 2)), rowE zK 3 Vv vs, rowE iK 43 Lv l]) rfl ?_
 refine At.drawM ([dbB b Vv Lv Gv Wv (⟨x.th, x.cap, x.wd, x.ver, x.chunk, x.mate, x.after, x.line, x.i, x.min, x.at_, x.xk, x.xv, (r.peek ((cellAtD (x.cap : Int) x.chunk x.mate x.i) + 2)), x.repl, x.e⟩ : Db)]) ([]) [tt 0, tt 1, tt 2, tt 3, tt 5, tt 6, tt 7] [tt 4, tt 8, ff 9, ff 10] [tt 11, tt 12, ff 13] (keepOf sl) (fun _ h => nomatch h) (by kernel_rfl) (by kernel_rfl) ?_
 refine V ?_
 refine At.stage kz ?_
 refine W ?_
 refine At.lit (k := iK) rfl rfl rfl Tryz.underlying40 et_43 (.k rfl .nil) (.cons (y := (⟨x.xk, x.xv, (r.peek ((cellAtD (x.cap : Int) x.chunk x.mate x.i) + 2))⟩ : Itm)) rfl .nil) rfl rfl rfl (fun v1 => ⟨kz, ?_⟩)
 refine At.app (k := iK) rfl rfl rfl Tryz.underlying40 et_43 (.t rfl) (.t rfl) (fun _ => by (exact U5)) (wS M0) (by (simp <;> omega)) (fun v2 => ⟨kz, ?_⟩)
 refine At.stage Cl.none ?_
 refine W ?_
 refine At.rowOne (v := v2) (M5) (fun h1v => ?_)
 refine At.st1 rfl rfl sz_40 (.t rfl) (.t rfl) h1v rfl (.n U1) ⟨Cl.none, ?_⟩
 refine W ?_
 refine At.weak (fun _ _ h => h) (N' := [dbB b Vv v2 Gv Wv (⟨x.th, x.cap, x.wd, x.ver, x.chunk, x.mate, x.after, x.line, x.i, x.min, x.at_, x.xk, x.xv, (r.peek ((cellAtD (x.cap : Int) x.chunk x.mate x.i) + 2)), x.repl, x.e⟩ : Db), raB ba wv (r.load ((cellAtD (x.cap : Int) x.chunk x.mate x.i) + 2)), raW wv n (r.load ((cellAtD (x.cap : Int) x.chunk x.mate x.i) + 2)), rowE zK 3 Vv vs, rowE iK 43 v2 (l ++ [(⟨x.xk, x.xv, (r.peek ((cellAtD (x.cap : Int) x.chunk x.mate x.i) + 2))⟩ : Itm)])]) (List.sublist_cons_self _ _) ?_; refine cM rfl rfl rfl (.k rfl .nil) rfl (.n (.take .nil)) .nil (db_nextA (x := (⟨x.th, x.cap, x.wd, x.ver, x.chunk, x.mate, x.after, x.line, x.i, x.min, x.at_, x.xk, x.xv, (r.peek ((cellAtD (x.cap : Int) x.chunk x.mate x.i) + 2)), x.repl, x.e⟩ : Db)) (by dsimp only; omega) hx4.2 hc) rfl .nil ⟨.all, ?_⟩
 refine Z ?_
 exact At.finalX (N' := [dbB b Vv v2 Gv Wv (⟨x.th, x.cap, x.wd, x.ver, x.chunk, x.mate, x.after, 2, (x.i + 1), x.min, x.at_, x.xk, x.xv, (r.peek ((cellAtD (x.cap : Int) x.chunk x.mate x.i) + 2)), x.repl, x.e⟩ : Db), raB ba wv (r.load ((cellAtD (x.cap : Int) x.chunk x.mate x.i) + 2)), raW wv n (r.load ((cellAtD (x.cap : Int) x.chunk x.mate x.i) + 2)), rowE zK 3 Vv vs, rowE iK 43 v2 (l ++ [(⟨x.xk, x.xv, (r.peek ((cellAtD (x.cap : Int) x.chunk x.mate x.i) + 2))⟩ : Itm)])]) hds how rfl (.t rfl) (List.Sublist.refl _) (⟨v2, rfl, rfl⟩)
theorem db_Step4b {l : List Itm} {vs : List Int} (hL : l.length ≤ 400) {b ba n : Nat} {wv Vv Lv Gv Wv : Value} {x : Db} {r : Rr} (hx : x.ok) (hl : x.line = 4) (hn : r.w.length = n) (hN : n ≤ 1000000) (hf : r.few) (hw : r.mid 1152921504606846976) (hc : ¬ x.i + 1 < cellsD (x.cap : Int) x.mate) : FnX Tryz.prog 147 [.pointer (some ⟨b, 0, none⟩), .pointer (some ⟨ba, 0, none⟩)] ([]) ([dbB b Vv Lv Gv Wv x, raB ba wv r, raW wv n r, rowE zK 3 Vv vs, rowE iK 43 Lv l]) (fun v N => ∃ Lv2 Gv2 gs, v = .bool false ∧ gs.map (·.2) = splitR (max 2 (min (x.cap : Int) 16) / 2) [[]] (keepF (sortF (l ++ [(⟨x.xk, x.xv, (r.peek ((cellAtD (x.cap : Int) x.chunk x.mate x.i) + 2))⟩ : Itm)])) vs (sortF (l ++ [(⟨x.xk, x.xv, (r.peek ((cellAtD (x.cap : Int) x.chunk x.mate x.i) + 2))⟩ : Itm)])).length) ∧ N = rowE sK 40 Gv2 (gs.map (·.1)) :: dbB b Vv Lv2 Gv2 Wv (⟨x.th, x.cap, x.wd, x.ver, x.chunk, x.mate, x.after, 5, (x.i + 1), x.min, x.at_, x.xk, x.xv, (r.peek ((cellAtD (x.cap : Int) x.chunk x.mate x.i) + 2)), x.repl, x.e⟩ : Db) :: raB ba wv (r.load ((cellAtD (x.cap : Int) x.chunk x.mate x.i) + 2)) :: raW wv n (r.load ((cellAtD (x.cap : Int) x.chunk x.mate x.i) + 2)) :: seg iK 43 gs) := by
 refine FnX.enter Tryz.func147 (by kernel_rfl) rfl (n := 267) rfl rfl (fun w df hds how => ?_)
 obtain ⟨hx1, hx2, hx3, hx4, hx5⟩ := hx
 have hat := cellAtD_bd (x.cap : Int) hx1 hx2 (show 0 ≤ (x.cap : Int) ∧ (x.cap : Int) ≤ 16 by omega) hx5
 refine W ?_
 refine At.drawK [tt 0, tt 1, tt 2, tt 3, tt 4, tt 5, tt 6, tt 7, tt 8, tt 9, tt 10, tt 11, tt 12, tt 13, tt 14, tt 15, ff 16, tt 17] (by kernel_rfl) (by kernel_rfl) ?_
 refine W ?_
 refine At.callVR rfl rfl rfl (.k rfl (.k rfl (.k rfl (.k rfl .nil)))) (.nil) (fun hg => d_cellAt2 (by omega) (by omega) (by omega) (by omega)) kI ?_
 refine Y ?_
 refine cM rfl rfl rfl (.k rfl (.k rfl .nil)) rfl (.n (.skip (.take (.take .nil)))) .nil (r_Load (r := r) (i := (cellAtD (x.cap : Int) x.chunk x.mate x.i) + 2) hn hN hf) keysRa .nil ⟨.all, ?_⟩
 refine W ?_
 refine At.st1 rfl rfl sz_3 (.t rfl) (.t rfl) rfl rfl (.n U0) ⟨.all, ?_⟩
 refine W ?_
 refine At.re (N' := [dbB b Vv Lv Gv Wv (⟨x.th, x.cap, x.wd, x.ver, x.chunk, x.mate, x.after, x.line, x.i, x.min, x.at_, x.xk, x.xv, (r.peek ((cellAtD (x.cap : Int) x.chunk x.mate x.i) + 2)), x.repl, x.e⟩ : Db), raB ba wv (r.load ((cellAtD (x.cap : Int) x.chunk x.mate x.i) + 2)), raW wv n (r.load ((cellAtD (x.cap : Int) x.chunk x.mate x.i) + 2)), rowE zK 3 Vv vs, rowE iK 43 Lv l]) rfl ?_
 refine At.drawM ([dbB b Vv Lv Gv Wv (⟨x.th, x.cap, x.wd, x.ver, x.chunk, x.mate, x.after, x.line, x.i, x.min, x.at_, x.xk, x.xv, (r.peek ((cellAtD (x.cap : Int) x.chunk x.mate x.i) + 2)), x.repl, x.e⟩ : Db)]) ([]) [tt 0, tt 1, tt 2, tt 3, tt 5, tt 6, tt 7] [tt 4, tt 8, ff 9, ff 10] [tt 11, tt 12, ff 13] (keepOf sl) (fun _ h => nomatch h) (by kernel_rfl) (by kernel_rfl) ?_
 refine V ?_
 refine At.stage kz ?_
 refine W ?_
 refine At.lit (k := iK) rfl rfl rfl Tryz.underlying40 et_43 (.k rfl .nil) (.cons (y := (⟨x.xk, x.xv, (r.peek ((cellAtD (x.cap : Int) x.chunk x.mate x.i) + 2))⟩ : Itm)) rfl .nil) rfl rfl rfl (fun v1 => ⟨kz, ?_⟩)
 refine At.app (k := iK) rfl rfl rfl Tryz.underlying40 et_43 (.t rfl) (.t rfl) (fun _ => by (exact U5)) (wS M0) (by (simp <;> omega)) (fun v2 => ⟨kz, ?_⟩)
 refine At.stage Cl.none ?_
 refine W ?_
 refine At.rowOne (v := v2) (M5) (fun h1v => ?_)
 refine At.st1 rfl rfl sz_40 (.t rfl) (.t rfl) h1v rfl (.n U1) ⟨Cl.none, ?_⟩
 refine W ?_
 refine At.weak (fun _ _ h => h) (N' := [dbB b Vv v2 Gv Wv (⟨x.th, x.cap, x.wd, x.ver, x.chunk, x.mate, x.after, x.line, x.i, x.min, x.at_, x.xk, x.xv, (r.peek ((cellAtD (x.cap : Int) x.chunk x.mate x.i) + 2)), x.repl, x.e⟩ : Db), raB ba wv (r.load ((cellAtD (x.cap : Int) x.chunk x.mate x.i) + 2)), raW wv n (r.load ((cellAtD (x.cap : Int) x.chunk x.mate x.i) + 2)), rowE zK 3 Vv vs, rowE iK 43 v2 (l ++ [(⟨x.xk, x.xv, (r.peek ((cellAtD (x.cap : Int) x.chunk x.mate x.i) + 2))⟩ : Itm)])]) (List.sublist_cons_self _ _) ?_; refine cX rfl rfl rfl (.k rfl .nil) rfl (.take (.skip (.skip (.take (.take .nil))))) .nil (db_nextB (x := (⟨x.th, x.cap, x.wd, x.ver, x.chunk, x.mate, x.after, x.line, x.i, x.min, x.at_, x.xk, x.xv, (r.peek ((cellAtD (x.cap : Int) x.chunk x.mate x.i) + 2)), x.repl, x.e⟩ : Db)) (Lv := v2) (l := (l ++ [(⟨x.xk, x.xv, (r.peek ((cellAtD (x.cap : Int) x.chunk x.mate x.i) + 2))⟩ : Itm)])) (vs := vs) (by dsimp only; omega) hx4.2 (by (simp; omega)) hc) Aprt.nil (fun v B hR => ⟨.all, ?_⟩); obtain ⟨Gv2, gs, rfl, hgs, rfl⟩ := hR; refine At.re (N' := _ :: _ :: (seg iK 43 gs ++ [raB ba wv (r.load ((cellAtD (x.cap : Int) x.chunk x.mate x.i) + 2)), raW wv n (r.load ((cellAtD (x.cap : Int) x.chunk x.mate x.i) + 2))])) rfl ?_; refine At.perm (N' := rowE sK 40 Gv2 (gs.map (·.1)) :: dbB b Vv v2 Gv2 Wv (⟨x.th, x.cap, x.wd, x.ver, x.chunk, x.mate, x.after, 5, (x.i + 1), x.min, x.at_, x.xk, x.xv, (r.peek ((cellAtD (x.cap : Int) x.chunk x.mate x.i) + 2)), x.repl, x.e⟩ : Db) :: raB ba wv (r.load ((cellAtD (x.cap : Int) x.chunk x.mate x.i) + 2)) :: raW wv n (r.load ((cellAtD (x.cap : Int) x.chunk x.mate x.i) + 2)) :: seg iK 43 gs) (List.Perm.cons _ (List.Perm.cons _ List.perm_append_comm)) ?_
 refine Z ?_
 exact At.finalX (N' := rowE sK 40 Gv2 (gs.map (·.1)) :: dbB b Vv v2 Gv2 Wv (⟨x.th, x.cap, x.wd, x.ver, x.chunk, x.mate, x.after, 5, (x.i + 1), x.min, x.at_, x.xk, x.xv, (r.peek ((cellAtD (x.cap : Int) x.chunk x.mate x.i) + 2)), x.repl, x.e⟩ : Db) :: raB ba wv (r.load ((cellAtD (x.cap : Int) x.chunk x.mate x.i) + 2)) :: raW wv n (r.load ((cellAtD (x.cap : Int) x.chunk x.mate x.i) + 2)) :: seg iK 43 gs) hds how rfl (.t rfl) (List.Sublist.refl _) (⟨v2, Gv2, gs, rfl, hgs, rfl⟩)
end Go.Proofs.YtbolanigdkgbdaaGreat
namespace Go.Proofs.YtbolanigdkgbdaaGreat
open Go Go.RowKit
set_option maxRecDepth 10000
set_option linter.unusedVariables false
set_option linter.unnecessarySimpa false
set_option maxHeartbeats 1000000
theorem fo_205_12 : fieldOff? Tryz.prog 205 12 = some 17 := by kernel_rfl
theorem fo_205_14 : fieldOff? Tryz.prog 205 14 = some 19 := by kernel_rfl
theorem fo_205_3 : fieldOff? Tryz.prog 205 3 = some 6 := by kernel_rfl
theorem fo_224_0 : fieldOff? Tryz.prog 224 0 = some 0 := by kernel_rfl
theorem fo_224_1 : fieldOff? Tryz.prog 224 1 = some 1 := by kernel_rfl
theorem fo_23_2 : fieldOff? Tryz.prog 23 2 = some 2 := by kernel_rfl
theorem sz_203 : (Tryz.prog.info? 203).map (·.size) = some 1 := by kernel_rfl
theorem sz_224 : (Tryz.prog.info? 224).map (·.size) = some 2 := by kernel_rfl
theorem Cl.keptApp [Df] {w0 : World} {S N H B : Hp} {a : Ent} : Cl w0 S (a :: (N ++ B)) H (Kept (S ++ (N ++ H))) := Cl.kept fun e he => by
  simp only [List.mem_append, List.mem_cons] at he ⊢
  rcases he with h | h | h
  · exact .inl h
  · exact .inr (.inl (.inr (.inl h)))
  · exact .inr (.inr h)
theorem mul_bd {a c : Int} (ha : 0 ≤ a ∧ a ≤ 60) (hc : 0 ≤ c ∧ c ≤ 55) : 0 ≤ a * c ∧ a * c ≤ 3300 := by
  constructor
  · exact Int.mul_nonneg ha.1 hc.1
  · calc a * c ≤ 60 * 55 := Int.mul_le_mul ha.2 hc.2 hc.1 (by decide)
      _ = 3300 := rfl
theorem chunksF_le (cap : Nat) (at_ after least : Int) (G : List (List Itm)) : (chunksF cap at_ after least G).length ≤ G.length := by
  unfold chunksF; split <;> simp
theorem chunk_bd {cap : Nat} {at_ after least : Int} {G : List (List Itm)} {cs : List (Chk × List Cel)} (h : cs.map (fun x : Chk × List Cel => (hd x.1, x.2)) = chunksF cap at_ after least G) (ha : -1000000 ≤ at_ ∧ at_ ≤ 1000000) (hc : 1 ≤ cap ∧ cap ≤ 16) (hg : G.length ≤ 60) :
    ∀ x ∈ cs, -1152921504606846976 ≤ x.1.a0 ∧ x.1.a0 ≤ 1152921504606846976 ∧ x.2.length ≤ 100 := fun x hx => by
  have hm : (hd x.1, x.2) ∈ chunksF cap at_ after least G := by rw [← h]; exact List.mem_map.2 ⟨x, hx, rfl⟩
  unfold chunksF at hm
  split at hm
  · rename_i hG
    obtain ⟨i, hi, he⟩ := List.mem_map.1 hm
    rw [List.mem_range] at hi
    unfold chunkS at he
    have e1 := congrArg (fun z : List Int × List Cel => gE z.1 0) he
    have e2 := congrArg (fun z : List Int × List Cel => z.2.length) he
    have e1' : at_ + (i : Int) * (7 + 3 * (cap : Int)) = x.1.a0 := e1
    have hb := mul_bd (a := (i : Int)) (c := 7 + 3 * (cap : Int)) (by omega) (by omega)
    have hl : (gE G (i : Int)).length ≤ cap := hG _ (gE_mem' (by omega))
    have e2' : (cellsP cap (gE G (i : Int)) (gE G (i : Int)).length).length = x.2.length := e2
    rw [cellsP_len (Nat.le_refl _) hl] at e2'
    omega
  · cases hm
theorem db_Step5 {b ba n : Nat} {wv Vv Lv Gv Wv : Value} {x : Db} {r : Rr} (hx : x.ok) (hl : x.line = 5) (hn : r.w.length = n) (hN : n ≤ 1000000) (hf : r.few) (hw : r.mid 1152921504606846976) {gs : List (SV × List Itm)} (hg : gs.length ≤ 60) (hwd : 0 ≤ x.wd ∧ x.wd ≤ 1000000) : FnX Tryz.prog 147 [.pointer (some ⟨b, 0, none⟩), .pointer (some ⟨ba, 0, none⟩)] ([]) (dbB b Vv Lv Gv Wv x :: raB ba wv r :: raW wv n r :: rowE sK 40 Gv (gs.map (·.1)) :: seg iK 43 gs) (fun v N => (v = .bool true ∧ ((r.peek 2) < 1 ∨ x.wd - (((gs.map (·.1)).length : Int) * (7 + 3 * (x.cap : Int))) < (r.peek 2) ∨ (chunksF x.cap (r.peek 2) x.after x.min (gs.map (·.2))).length = 0) ∧ N = dbB b Vv Lv Gv Wv (⟨x.th, x.cap, x.wd, x.ver, x.chunk, x.mate, x.after, 0, x.i, x.min, (r.peek 2), x.xk, x.xv, x.xd, x.repl, 14⟩ : Db) :: raB ba wv (r.add 2 (((gs.map (·.1)).length : Int) * (7 + 3 * (x.cap : Int)))) :: raW wv n (r.add 2 (((gs.map (·.1)).length : Int) * (7 + 3 * (x.cap : Int)))) :: []) ∨ (∃ Wv2 cs, v = .bool false ∧ (1 ≤ (r.peek 2) ∧ (r.peek 2) ≤ x.wd - (((gs.map (·.1)).length : Int) * (7 + 3 * (x.cap : Int))) ∧ (chunksF x.cap (r.peek 2) x.after x.min (gs.map (·.2))).length ≠ 0) ∧ cs.map (fun x : Chk × List Cel => (hd x.1, x.2)) = (chunksF x.cap (r.peek 2) x.after x.min (gs.map (·.2))) ∧ N = rowE pK 224 Wv2 (wordsF cs cs.length) :: dbB b Vv Lv Gv Wv2 (⟨x.th, x.cap, x.wd, x.ver, x.chunk, x.mate, x.after, 6, 0, x.min, (r.peek 2), x.xk, x.xv, x.xd, x.repl, x.e⟩ : Db) :: raB ba wv (r.add 2 (((gs.map (·.1)).length : Int) * (7 + 3 * (x.cap : Int)))) :: raW wv n (r.add 2 (((gs.map (·.1)).length : Int) * (7 + 3 * (x.cap : Int)))) :: [])) := by
 refine FnX.enter Tryz.func147 (by kernel_rfl) rfl (n := 267) rfl rfl (fun w df hds how => ?_)
 obtain ⟨hx1, hx2, hx3, hx4, hx5⟩ := hx
 have hat := cellAtD_bd (x.cap : Int) hx1 hx2 (show 0 ≤ (x.cap : Int) ∧ (x.cap : Int) ≤ 16 by omega) hx5
 have hml : (gs.map (·.1)).length = gs.length := List.length_map _
 have hmu := mul_bd (a := ((gs.map (·.1)).length : Int)) (c := (7 + 3 * (x.cap : Int))) (by omega) (by omega)
 have hpk := Rr.peek_mid hw (by decide) 2
 refine W ?_
 refine At.drawK [tt 0, tt 1, tt 2, tt 3, tt 4, tt 5, tt 6, tt 7, tt 8, tt 9, tt 10, tt 11, tt 12, tt 13, tt 14, tt 15, ff 16, tt 17] (by kernel_rfl) (by kernel_rfl) ?_
 refine W ?_
 refine At.callVR rfl rfl rfl (.k rfl (.k rfl (.k rfl (.k rfl .nil)))) (.nil) (fun hg => d_cellAt2 (by omega) (by omega) (by omega) (by omega)) kI ?_
 refine Y ?_
 refine At.drawK [tt 0, tt 1, tt 2, tt 3, tt 4, tt 5, tt 6, tt 7, tt 8, ff 9, tt 10, tt 11] (by kernel_rfl) (by kernel_rfl) ?_
 refine W ?_
 refine At.callVR rfl rfl rfl (.k rfl .nil) (.nil) (fun hg => r_Size (by omega)) kI ?_
 refine W ?_
 refine cM rfl rfl rfl (.k rfl (.kc (.k rfl .nil))) rfl (.n (.skip (.take (.take .nil)))) .nil (r_Add (r := r) (i := 2) (x := (((gs.map (·.1)).length : Int) * (7 + 3 * (x.cap : Int)))) hn hN hf (by omega)) keysRa .nil ⟨.all, ?_⟩
 refine W ?_
 refine At.st1 rfl rfl sz_3 (.t rfl) (.t rfl) rfl rfl (.n U0) ⟨.all, ?_⟩
 refine W ?_
 refine At.drawK [tt 0, tt 1, tt 2, tt 3, tt 4, tt 5, tt 6, tt 7, tt 8, tt 9, tt 10, tt 11, tt 12, tt 13, tt 14, tt 15, tt 16, tt 17, tt 18, tt 19, ff 20, tt 21] (by kernel_rfl) (by kernel_rfl) ?_
 refine W ?_
 refine At.callRC rfl rfl rfl (.k rfl (.k rfl (.k rfl (.k rfl (.k rfl .nil))))) (Rds.ofSeg (Eo := 0) (E := 0) (wS M3) (segAll (E := 43) sl)) (c_rChunks (gs := asN gs) (cap := x.cap) (by rw [asN_len]; omega) (by omega) (by omega) (by omega)) (fun vc cs hcs => ⟨Cl.keptApp, ?_⟩); rw [asN_snd] at hcs; have hcl := csLen hcs; have hcl2 := chunksF_le x.cap (r.peek 2) x.after x.min (gs.map (·.2)); have hgl : (gs.map (·.2)).length = gs.length := List.length_map _
 refine sC rfl Cl.keptApp (R.assign (.t rfl)) ?_
 refine W ?_
 refine At.drawK [tt 0, tt 1, tt 2, tt 3, tt 4, tt 5, tt 6, tt 7, tt 8, tt 9, tt 10, tt 11, tt 12, tt 13, tt 14, tt 15, tt 16, tt 17, tt 18, tt 19, tt 20, tt 21, tt 22, tt 23] (by kernel_rfl) (by kernel_rfl) ?_
 refine Z ?_
 refine At.cond (.t rfl) (fun c6 => ?_) (fun c6 => ?_)
 ·
  have hc7 : (r.peek 2) < 1 ∨ x.wd - (((gs.map (·.1)).length : Int) * (7 + 3 * (x.cap : Int))) < (r.peek 2) ∨ (chunksF x.cap (r.peek 2) x.after x.min (gs.map (·.2))).length = 0 := (by have hcm : (cs.map (fun x : Chk × List Cel => x.1)).length = cs.length := List.length_map _; simp [-List.length_map, -List.length_eq_zero_iff] at c6; omega)
  refine W ?_
  refine At.st1 rfl rfl sz_3 (.t rfl) .c rfl rfl (.n U1) ⟨.all, ?_⟩
  refine W ?_
  refine At.st1 rfl rfl sz_3 (.t rfl) .c rfl rfl (.n U1) ⟨.all, ?_⟩
  refine Y ?_
  exact At.finalX (N' := dbB b Vv Lv Gv Wv (⟨x.th, x.cap, x.wd, x.ver, x.chunk, x.mate, x.after, 0, x.i, x.min, (r.peek 2), x.xk, x.xv, x.xd, x.repl, 14⟩ : Db) :: raB ba wv (r.add 2 (((gs.map (·.1)).length : Int) * (7 + 3 * (x.cap : Int)))) :: raW wv n (r.add 2 (((gs.map (·.1)).length : Int) * (7 + 3 * (x.cap : Int)))) :: []) hds how rfl (.t rfl) sl (.inl ⟨rfl, hc7, rfl⟩)
 ·
  have hc7 : 1 ≤ (r.peek 2) ∧ (r.peek 2) ≤ x.wd - (((gs.map (·.1)).length : Int) * (7 + 3 * (x.cap : Int))) ∧ (chunksF x.cap (r.peek 2) x.after x.min (gs.map (·.2))).length ≠ 0 := (by have hcm : (cs.map (fun x : Chk × List Cel => x.1)).length = cs.length := List.length_map _; simp [-List.length_map, -List.length_eq_zero_iff] at c6; omega)
  refine W ?_
  refine At.callRF rfl rfl rfl (.k rfl .nil) (Rds.ofCs (wS M0) (csgAll (E := 239) sl)) (d_Words (by omega) (chunk_bd hcs (by omega) (by omega) (by omega))) (fun Wv2 => ⟨.all, ?_⟩)
  refine W ?_
  refine At.rowOne (v := Wv2) (M0) (fun h1v => ?_)
  refine At.st1 rfl rfl sz_203 (.t rfl) (.t rfl) h1v rfl (.n U2) ⟨.all, ?_⟩
  refine W ?_
  refine At.st1 rfl rfl sz_3 (.t rfl) .c rfl rfl (.n U2) ⟨.all, ?_⟩
  refine W ?_
  refine At.st1 rfl rfl sz_3 (.t rfl) .c rfl rfl (.n U2) ⟨.all, ?_⟩
  refine Y ?_
  exact At.finalX (N' := rowE pK 224 Wv2 (wordsF cs cs.length) :: dbB b Vv Lv Gv Wv2 (⟨x.th, x.cap, x.wd, x.ver, x.chunk, x.mate, x.after, 6, 0, x.min, (r.peek 2), x.xk, x.xv, x.xd, x.repl, x.e⟩ : Db) :: raB ba wv (r.add 2 (((gs.map (·.1)).length : Int) * (7 + 3 * (x.cap : Int)))) :: raW wv n (r.add 2 (((gs.map (·.1)).length : Int) * (7 + 3 * (x.cap : Int)))) :: []) hds how rfl (.t rfl) sl (.inr ⟨Wv2, cs, rfl, hc7, hcs, rfl⟩)
theorem db_Step6 {b ba n : Nat} {wv Vv Lv Gv Wv : Value} {x : Db} {r : Rr} (hx : x.ok) (hl : x.line = 6) (hn : r.w.length = n) (hN : n ≤ 1000000) (hf : r.few) (hw : r.mid 1152921504606846976) {ws : List (Int × Int)} (hi : 0 ≤ x.i ∧ x.i < ws.length) : Fn Tryz.prog 147 [.pointer (some ⟨b, 0, none⟩), .pointer (some ⟨ba, 0, none⟩)] ([]) ([dbB b Vv Lv Gv Wv x, raB ba wv r, raW wv n r, rowE pK 224 Wv ws]) (IsM (.bool false) [dbB b Vv Lv Gv Wv (if (ws.length : Int) ≤ x.i + 1 then (⟨x.th, x.cap, x.wd, x.ver, x.chunk, x.mate, x.after, 7, (x.i + 1), x.min, x.at_, x.xk, x.xv, x.xd, x.repl, x.e⟩ : Db) else (⟨x.th, x.cap, x.wd, x.ver, x.chunk, x.mate, x.after, x.line, (x.i + 1), x.min, x.at_, x.xk, x.xv, x.xd, x.repl, x.e⟩ : Db)), raB ba wv (r.store (gE ws x.i).1 (gE ws x.i).2), raW wv n (r.store (gE ws x.i).1 (gE ws x.i).2), rowE pK 224 Wv ws]) := by
 refine Fn.enter Tryz.func147 (by kernel_rfl) rfl (n := 267) rfl rfl (fun w => ?_)
 obtain ⟨hx1, hx2, hx3, hx4, hx5⟩ := hx
 have hat := cellAtD_bd (x.cap : Int) hx1 hx2 (show 0 ≤ (x.cap : Int) ∧ (x.cap : Int) ≤ 16 by omega) hx5
 refine W ?_
 refine At.drawK [tt 0, tt 1, tt 2, tt 3, tt 4, tt 5, tt 6, tt 7, tt 8, tt 9, tt 10, tt 11, tt 12, tt 13, tt 14, tt 15, ff 16, tt 17] (by kernel_rfl) (by kernel_rfl) ?_
 refine W ?_
 refine At.callVR rfl rfl rfl (.k rfl (.k rfl (.k rfl (.k rfl .nil)))) (.nil) (fun hg => d_cellAt2 (by omega) (by omega) (by omega) (by omega)) kI ?_
 refine Y ?_
 refine At.drawL ([dbB b Vv Lv Gv Wv x, rowE pK 224 Wv ws]) [tt 0, tt 1, tt 2, tt 3, tt 4, tt 5, tt 6, tt 7, tt 8, tt 9, tt 10, tt 11, tt 12, tt 13, tt 14, tt 15, tt 16, tt 17, tt 18, tt 19, tt 20, tt 21, tt 22] [] [ff 23] (keepOf sl) (by kernel_rfl) (by kernel_rfl) ?_
 refine V ?_
 refine At.stage kI ?_
 refine At.stage kz ?_
 refine cM rfl rfl rfl (.k rfl (.k rfl (.k rfl .nil))) rfl (.h (.skip (.take (.take .nil)))) .nil (r_Store (r := r) (i := (gE ws x.i).1) (x := (gE ws x.i).2) hn hN hf) keysRa .nil ⟨kz, ?_⟩
 refine W ?_
 refine At.st1 rfl rfl sz_3 (.t rfl) (.t rfl) rfl rfl (.h U0) ⟨.all, ?_⟩
 refine W ?_
 refine At.drawK [tt 0, tt 1, tt 2, tt 3, tt 4, tt 5, tt 6, tt 7, tt 8, tt 9] (by kernel_rfl) (by kernel_rfl) ?_
 refine Z ?_
 refine At.condD (.t rfl) (fun c7 => ?_) (fun c7 => ?_)
 ·
  refine W ?_
  refine At.st1 rfl rfl sz_3 (.t rfl) .c rfl rfl (.h U0) ⟨.all, ?_⟩
  refine Y ?_
  exact fT rfl (.t rfl) (⟨rfl, rfl, by (rw [if_pos (by simpa using c7)]; rfl)⟩)
 ·
  refine Y ?_
  exact fT rfl (.t rfl) (⟨rfl, rfl, by (rw [if_neg (by simpa using c7)]; rfl)⟩)
end Go.Proofs.YtbolanigdkgbdaaGreat
namespace Go.Proofs.YtbolanigdkgbdaaGreat
open Go Go.RowKit
set_option maxRecDepth 10000
set_option linter.unusedVariables false
set_option maxHeartbeats 1000000
def MB (k : Nat) : Int := 72057594037927936 + 4000 * (k : Int)
def Bd (k : Nat) (v : Int) : Prop := -MB k ≤ v ∧ v ≤ MB k
theorem Bd.up {k : Nat} {v : Int} (h : Bd k v) : Bd (k + 1) v := by unfold Bd MB at *; omega
theorem Bd.le {k j : Nat} {v : Int} (h : Bd k v) (hj : k ≤ j) : Bd j v := by unfold Bd MB at *; omega
theorem Bd.half {k : Nat} {v : Int} (h : Bd k v) : Bd (k + 1) (v / 2) := by unfold Bd MB at *; omega
theorem Bd.or1 {k : Nat} {v : Int} (h : Bd k v) : Bd (k + 1) (orOne v) := by unfold Bd MB orOne at *; split <;> omega
theorem Bd.sm {k : Nat} {v : Int} (h : -72057594037927936 ≤ v ∧ v ≤ 72057594037927936) : Bd k v := by unfold Bd MB; omega
theorem Bd.big {k : Nat} {v : Int} (h : Bd k v) (hk : k ≤ 100000000) : -1000000000000000000 ≤ v ∧ v ≤ 1000000000000000000 := by unfold Bd MB at *; omega
theorem Bd.ver {k : Nat} {v : Int} (h : Bd k v) : Bd (k + 1) (verD v) := by unfold Bd MB verD at *; split <;> omega
theorem Bd.next {k : Nat} {v : Int} {b : Bool} : Bd k (nextD v b) := by unfold Bd MB nextD; split <;> omega
theorem Bd.claim {k : Nat} {s p : Int} : Bd k (claimD s p) := by unfold Bd MB claimD; omega
theorem Bd.data {k : Nat} {s p : Int} : Bd k (dataD s p) := by unfold Bd MB dataD; omega
structure Rr.okk (n k : Nat) (r : Rr) : Prop where
  len : r.w.length = n
  mid : r.mid (MB k)
  cnt : 0 ≤ r.n ∧ r.n ≤ (k : Int)
theorem Rr.okk.pk {n k : Nat} {r : Rr} (h : r.okk n k) (i : Int) : Bd k (r.peek i) := Rr.peek_mid h.mid (by unfold MB; omega) i
theorem Rr.okk.up {n k : Nat} {r : Rr} (h : r.okk n k) : r.okk n (k + 1) := ⟨h.len, Rr.up_mid h.mid (by unfold MB; omega), by have := h.cnt; omega⟩
theorem Rr.okk.le {n k j : Nat} {r : Rr} (h : r.okk n k) (hj : k ≤ j) : r.okk n j := ⟨h.len, Rr.up_mid h.mid (by unfold MB; omega), by have := h.cnt; omega⟩
theorem Rr.okk.few {n k : Nat} {r : Rr} (h : r.okk n k) (hk : k ≤ 100000000) : r.few := by have := h.cnt; unfold Rr.few; omega
theorem Rr.okk.big {n k : Nat} {r : Rr} (h : r.okk n k) (hk : k ≤ 100000000) : r.mid 1152921504606846976 := Rr.up_mid h.mid (by unfold MB; omega)
theorem Rr.okk.load {n k : Nat} {r : Rr} (h : r.okk n k) (i : Int) : (r.load i).okk n (k + 1) := ⟨(Rr.load_len _ _).trans h.len, Rr.load_mid h.up.mid i, by have := h.cnt; show 0 ≤ r.n + 1 ∧ r.n + 1 ≤ _; omega⟩
theorem Rr.okk.store {n k : Nat} {r : Rr} (h : r.okk n k) {i x : Int} (hx : Bd (k + 1) x) : (r.store i x).okk n (k + 1) := ⟨(Rr.store_len _ _ _).trans h.len, Rr.store_mid h.up.mid hx, by have := h.cnt; have e : (r.store i x).n = r.n + 1 := (by show (r.poke i x).n + 1 = _; rw [Rr.poke_n]); rw [e]; omega⟩
theorem Rr.okk.swap {n k : Nat} {r : Rr} (h : r.okk n k) {i y x : Int} (hx : Bd (k + 1) x) : (r.swap i y x).okk n (k + 1) := ⟨(Rr.swap_len _ _ _ _).trans h.len, Rr.swap_mid h.up.mid hx, by
  have := h.cnt
  have e : (r.swap i y x).n = r.n + 1 := by
    show (if r.swaps i y = true then r.poke i x else r).n + 1 = _
    split
    · rw [Rr.poke_n]
    · rfl
  rw [e]; omega⟩
theorem Rr.okk.add {n k : Nat} {r : Rr} (h : r.okk n k) {i x : Int} (hx : -4000 ≤ x ∧ x ≤ 4000) : (r.add i x).okk n (k + 1) := ⟨(Rr.add_len _ _ _).trans h.len, Rr.add_mid h.mid (by unfold MB; omega) (by unfold MB; omega) (by unfold MB; omega), by
  have := h.cnt
  have e : (r.add i x).n = r.n + 1 := by show (r.poke i (r.peek i + x)).n + 1 = _; rw [Rr.poke_n]
  rw [e]; omega⟩
structure Dw.bd (k : Nat) (x : Dw) : Prop where
  b_x : Bd k x.x
  b_cur : Bd k x.cur
  b_n : Bd k x.n
  b_at : Bd k x.at_
  th : 0 ≤ x.th ∧ x.th ≤ 1000
  key : 0 ≤ x.key ∧ x.key ≤ 255
theorem Dw.bd.le {k j : Nat} {x : Dw} (h : x.bd k) (hj : k ≤ j) : x.bd j := ⟨h.b_x.le hj, h.b_cur.le hj, h.b_n.le hj, h.b_at.le hj, h.th, h.key⟩
structure Dc.bd (k : Nat) (x : Dc) : Prop where
  b_v : Bd k x.v
  b_version : Bd k x.version
  tt : 0 ≤ x.t ∧ x.t ≤ 1000
  seq : True
theorem Dc.bd.le {k j : Nat} {x : Dc} (h : x.bd k) (hj : k ≤ j) : x.bd j := ⟨h.b_v.le hj, h.b_version.le hj, h.tt, h.seq⟩
structure Dx.bd (k : Nat) (x : Dx) : Prop where
  b_chunk : Bd k x.chunk
  b_key : Bd k x.key
  b_data : Bd k x.data
  b_g : Bd k x.g
  b_version : Bd k x.version
  cap : 0 ≤ x.cap ∧ x.cap ≤ 16
  ii : -1 ≤ x.i ∧ x.i ≤ 16
theorem Dx.bd.le {k j : Nat} {x : Dx} (h : x.bd k) (hj : k ≤ j) : x.bd j := ⟨h.b_chunk.le hj, h.b_key.le hj, h.b_data.le hj, h.b_g.le hj, h.b_version.le hj, h.cap, h.ii⟩
structure Dd.bd (k : Nat) (x : Dd) : Prop where
  b_chunk : Bd k x.chunk
  b_l : Bd k x.l
  b_n : Bd k x.n
  b_w : Bd k x.w
  b_mate : Bd k x.mate
  b_after : Bd k x.after
theorem Dd.bd.le {k j : Nat} {x : Dd} (h : x.bd k) (hj : k ≤ j) : x.bd j := ⟨h.b_chunk.le hj, h.b_l.le hj, h.b_n.le hj, h.b_w.le hj, h.b_mate.le hj, h.b_after.le hj⟩
structure Dq.bd (k : Nat) (x : Dq) : Prop where
  b_chunk : Bd k x.chunk
  b_mate : Bd k x.mate
  b_g : Bd k x.g
  cap : 1 ≤ x.cap ∧ x.cap ≤ 16
  ii : 0 ≤ x.i ∧ x.i ≤ 32
  li : x.line = 0 ∨ x.i < cellsD x.cap x.mate
theorem Dq.bd.le {k j : Nat} {x : Dq} (h : x.bd k) (hj : k ≤ j) : x.bd j := ⟨h.b_chunk.le hj, h.b_mate.le hj, h.b_g.le hj, h.cap, h.ii, h.li⟩
structure Dp.bd (k : Nat) (x : Dp) : Prop where
  b_chunk : Bd k x.chunk
  b_mate : Bd k x.mate
  b_repl : Bd k x.repl
  b_m : Bd k x.m
  b_cur : Bd k x.cur
  b_w : Bd k x.w
  b_n : Bd k x.n
  b_stuck : Bd k x.stuck
  th : 0 ≤ x.th ∧ x.th ≤ 1000
theorem Dp.bd.le {k j : Nat} {x : Dp} (h : x.bd k) (hj : k ≤ j) : x.bd j := ⟨h.b_chunk.le hj, h.b_mate.le hj, h.b_repl.le hj, h.b_m.le hj, h.b_cur.le hj, h.b_w.le hj, h.b_n.le hj, h.b_stuck.le hj, h.th⟩
theorem Dw.bd.step {n k : Nat} {x : Dw} {r : Rr} (hx : x.bd k) (hr : r.okk n k) : (x.step r).1.bd (k + 1) ∧ (x.step r).2.okk n (k + 1) := by
  unfold Dw.step
  repeat' split
  all_goals refine ⟨⟨?_, ?_, ?_, ?_, ?_, ?_⟩, ?_⟩
  all_goals (try dsimp only [Dw.head, Dw.ends])
  all_goals first | first | exact (hr.pk _).up | exact (hr.pk _).half | exact (hr.pk _).ver | exact hx.b_x.up | exact hx.b_cur.up | exact hx.b_n.up | exact hx.b_at.up | exact hx.b_x.half | exact hx.b_x.or1 | exact hx.b_cur.half | exact hx.b_cur.or1 | exact hx.b_n.half | exact hx.b_n.or1 | exact hx.b_at.half | exact hx.b_at.or1 | exact hx.th | exact hx.key | exact Bd.sm (by have := hx.th; omega) | exact Bd.sm (by omega) | (first | exact hr.load _ | exact hr.store (by first | exact (hr.pk _).up | exact (hr.pk _).half | exact (hr.pk _).ver | exact hx.b_x.up | exact hx.b_cur.up | exact hx.b_n.up | exact hx.b_at.up | exact hx.b_x.half | exact hx.b_x.or1 | exact hx.b_cur.half | exact hx.b_cur.or1 | exact hx.b_n.half | exact hx.b_n.or1 | exact hx.b_at.half | exact hx.b_at.or1 | exact hx.th | exact hx.key | exact Bd.sm (by have := hx.th; omega) | exact Bd.sm (by omega)) | exact hr.swap (by first | exact (hr.pk _).up | exact (hr.pk _).half | exact (hr.pk _).ver | exact hx.b_x.up | exact hx.b_cur.up | exact hx.b_n.up | exact hx.b_at.up | exact hx.b_x.half | exact hx.b_x.or1 | exact hx.b_cur.half | exact hx.b_cur.or1 | exact hx.b_n.half | exact hx.b_n.or1 | exact hx.b_at.half | exact hx.b_at.or1 | exact hx.th | exact hx.key | exact Bd.sm (by have := hx.th; omega) | exact Bd.sm (by omega)) | exact hr.add (by omega) | exact hr.up)
theorem Dc.bd.step {n k : Nat} {x : Dc} {r : Rr} (hx : x.bd k) (hr : r.okk n k) : (x.step r).1.bd (k + 1) ∧ (x.step r).2.okk n (k + 1) := by
  unfold Dc.step
  repeat' split
  all_goals refine ⟨⟨?_, ?_, ?_, ?_⟩, ?_⟩
  all_goals (try dsimp only)
  all_goals first | first | exact (hr.pk _).up | exact (hr.pk _).half | exact (hr.pk _).ver | exact hx.b_v.up | exact hx.b_version.up | exact hx.b_v.half | exact hx.b_v.or1 | exact hx.b_version.half | exact hx.b_version.or1 | exact hx.tt | exact hx.seq | exact Bd.sm (by omega) | exact Bd.sm (by omega) | exact Bd.claim | exact trivial | (first | exact hr.load _ | exact hr.store (by first | exact (hr.pk _).up | exact (hr.pk _).half | exact (hr.pk _).ver | exact hx.b_v.up | exact hx.b_version.up | exact hx.b_v.half | exact hx.b_v.or1 | exact hx.b_version.half | exact hx.b_version.or1 | exact hx.tt | exact hx.seq | exact Bd.sm (by omega) | exact Bd.sm (by omega) | exact Bd.claim | exact trivial) | exact hr.swap (by first | exact (hr.pk _).up | exact (hr.pk _).half | exact (hr.pk _).ver | exact hx.b_v.up | exact hx.b_version.up | exact hx.b_v.half | exact hx.b_v.or1 | exact hx.b_version.half | exact hx.b_version.or1 | exact hx.tt | exact hx.seq | exact Bd.sm (by omega) | exact Bd.sm (by omega) | exact Bd.claim | exact trivial) | exact hr.add (by omega) | exact hr.up)
theorem Dx.bd.step {n k : Nat} {x : Dx} {r : Rr} (hx : x.bd k) (hr : r.okk n k) : (x.step r).1.bd (k + 1) ∧ (x.step r).2.okk n (k + 1) := by
  unfold Dx.step
  repeat' split
  all_goals refine ⟨⟨?_, ?_, ?_, ?_, ?_, ?_, ?_⟩, ?_⟩
  all_goals (try dsimp only)
  all_goals first | first | exact (hr.pk _).up | exact (hr.pk _).half | exact (hr.pk _).ver | exact hx.b_chunk.up | exact hx.b_key.up | exact hx.b_data.up | exact hx.b_g.up | exact hx.b_version.up | exact hx.b_chunk.half | exact hx.b_chunk.or1 | exact hx.b_key.half | exact hx.b_key.or1 | exact hx.b_data.half | exact hx.b_data.or1 | exact hx.b_g.half | exact hx.b_g.or1 | exact hx.b_version.half | exact hx.b_version.or1 | exact hx.cap | exact hx.ii | exact Bd.sm (by omega) | exact Bd.sm (by omega) | (have := hx.cap; have := hx.ii; omega) | (first | exact hr.load _ | exact hr.store (by first | exact (hr.pk _).up | exact (hr.pk _).half | exact (hr.pk _).ver | exact hx.b_chunk.up | exact hx.b_key.up | exact hx.b_data.up | exact hx.b_g.up | exact hx.b_version.up | exact hx.b_chunk.half | exact hx.b_chunk.or1 | exact hx.b_key.half | exact hx.b_key.or1 | exact hx.b_data.half | exact hx.b_data.or1 | exact hx.b_g.half | exact hx.b_g.or1 | exact hx.b_version.half | exact hx.b_version.or1 | exact hx.cap | exact hx.ii | exact Bd.sm (by omega) | exact Bd.sm (by omega) | (have := hx.cap; have := hx.ii; omega)) | exact hr.swap (by first | exact (hr.pk _).up | exact (hr.pk _).half | exact (hr.pk _).ver | exact hx.b_chunk.up | exact hx.b_key.up | exact hx.b_data.up | exact hx.b_g.up | exact hx.b_version.up | exact hx.b_chunk.half | exact hx.b_chunk.or1 | exact hx.b_key.half | exact hx.b_key.or1 | exact hx.b_data.half | exact hx.b_data.or1 | exact hx.b_g.half | exact hx.b_g.or1 | exact hx.b_version.half | exact hx.b_version.or1 | exact hx.cap | exact hx.ii | exact Bd.sm (by omega) | exact Bd.sm (by omega) | (have := hx.cap; have := hx.ii; omega)) | exact hr.add (by omega) | exact hr.up)
theorem cellsD_le {c m : Int} (h : 1 ≤ c ∧ c ≤ 16) : 1 ≤ cellsD c m ∧ cellsD c m ≤ 32 := by unfold cellsD; split <;> omega
theorem Dd.bd.more {n k : Nat} {x : Dd} {r : Rr} (hx : x.bd k) (hr : r.okk n k) : (x.more r).1.bd (k + 1) ∧ (x.more r).2.okk n (k + 1) := by
  unfold Dd.more
  repeat' split
  all_goals refine ⟨⟨?_, ?_, ?_, ?_, ?_, ?_⟩, ?_⟩
  all_goals (try dsimp only [Dd.alon])
  all_goals first | first | exact (hr.pk _).up | exact (hr.pk _).half | exact (hr.pk _).ver | exact hx.b_chunk.up | exact hx.b_l.up | exact hx.b_n.up | exact hx.b_w.up | exact hx.b_mate.up | exact hx.b_after.up | exact hx.b_chunk.half | exact hx.b_chunk.or1 | exact hx.b_l.half | exact hx.b_l.or1 | exact hx.b_n.half | exact hx.b_n.or1 | exact hx.b_w.half | exact hx.b_w.or1 | exact hx.b_mate.half | exact hx.b_mate.or1 | exact hx.b_after.half | exact hx.b_after.or1 | fail | exact Bd.sm (by omega) | exact Bd.sm (by omega) | (first | exact hr.load _ | exact hr.store (by first | exact (hr.pk _).up | exact (hr.pk _).half | exact (hr.pk _).ver | exact hx.b_chunk.up | exact hx.b_l.up | exact hx.b_n.up | exact hx.b_w.up | exact hx.b_mate.up | exact hx.b_after.up | exact hx.b_chunk.half | exact hx.b_chunk.or1 | exact hx.b_l.half | exact hx.b_l.or1 | exact hx.b_n.half | exact hx.b_n.or1 | exact hx.b_w.half | exact hx.b_w.or1 | exact hx.b_mate.half | exact hx.b_mate.or1 | exact hx.b_after.half | exact hx.b_after.or1 | fail | exact Bd.sm (by omega) | exact Bd.sm (by omega)) | exact hr.swap (by first | exact (hr.pk _).up | exact (hr.pk _).half | exact (hr.pk _).ver | exact hx.b_chunk.up | exact hx.b_l.up | exact hx.b_n.up | exact hx.b_w.up | exact hx.b_mate.up | exact hx.b_after.up | exact hx.b_chunk.half | exact hx.b_chunk.or1 | exact hx.b_l.half | exact hx.b_l.or1 | exact hx.b_n.half | exact hx.b_n.or1 | exact hx.b_w.half | exact hx.b_w.or1 | exact hx.b_mate.half | exact hx.b_mate.or1 | exact hx.b_after.half | exact hx.b_after.or1 | fail | exact Bd.sm (by omega) | exact Bd.sm (by omega)) | exact hr.add (by omega) | exact hr.up)
theorem Dd.bd.step {n k : Nat} {x : Dd} {r : Rr} (hx : x.bd k) (hr : r.okk n k) : (x.step r).1.bd (k + 1) ∧ (x.step r).2.okk n (k + 1) := by
  unfold Dd.step
  unfold Dd.eight
  repeat' split
  all_goals first | exact hx.more hr | skip
  all_goals refine ⟨⟨?_, ?_, ?_, ?_, ?_, ?_⟩, ?_⟩
  all_goals (try dsimp only [Dd.alon])
  all_goals first | first | exact (hr.pk _).up | exact (hr.pk _).half | exact (hr.pk _).ver | exact hx.b_chunk.up | exact hx.b_l.up | exact hx.b_n.up | exact hx.b_w.up | exact hx.b_mate.up | exact hx.b_after.up | exact hx.b_chunk.half | exact hx.b_chunk.or1 | exact hx.b_l.half | exact hx.b_l.or1 | exact hx.b_n.half | exact hx.b_n.or1 | exact hx.b_w.half | exact hx.b_w.or1 | exact hx.b_mate.half | exact hx.b_mate.or1 | exact hx.b_after.half | exact hx.b_after.or1 | fail | exact Bd.sm (by omega) | exact Bd.sm (by omega) | (first | exact hr.load _ | exact hr.store (by first | exact (hr.pk _).up | exact (hr.pk _).half | exact (hr.pk _).ver | exact hx.b_chunk.up | exact hx.b_l.up | exact hx.b_n.up | exact hx.b_w.up | exact hx.b_mate.up | exact hx.b_after.up | exact hx.b_chunk.half | exact hx.b_chunk.or1 | exact hx.b_l.half | exact hx.b_l.or1 | exact hx.b_n.half | exact hx.b_n.or1 | exact hx.b_w.half | exact hx.b_w.or1 | exact hx.b_mate.half | exact hx.b_mate.or1 | exact hx.b_after.half | exact hx.b_after.or1 | fail | exact Bd.sm (by omega) | exact Bd.sm (by omega)) | exact hr.swap (by first | exact (hr.pk _).up | exact (hr.pk _).half | exact (hr.pk _).ver | exact hx.b_chunk.up | exact hx.b_l.up | exact hx.b_n.up | exact hx.b_w.up | exact hx.b_mate.up | exact hx.b_after.up | exact hx.b_chunk.half | exact hx.b_chunk.or1 | exact hx.b_l.half | exact hx.b_l.or1 | exact hx.b_n.half | exact hx.b_n.or1 | exact hx.b_w.half | exact hx.b_w.or1 | exact hx.b_mate.half | exact hx.b_mate.or1 | exact hx.b_after.half | exact hx.b_after.or1 | fail | exact Bd.sm (by omega) | exact Bd.sm (by omega)) | exact hr.add (by omega) | exact hr.up)
theorem Dq.bd.step {n k : Nat} {x : Dq} {r : Rr} (hx : x.bd k) (hr : r.okk n k) : (x.step r).1.bd (k + 1) ∧ (x.step r).2.okk n (k + 1) := by
  unfold Dq.step
  repeat' split
  all_goals refine ⟨⟨?_, ?_, ?_, ?_, ?_, ?_⟩, ?_⟩
  all_goals (try dsimp only)
  all_goals first | first | exact (hr.pk _).up | exact (hr.pk _).half | exact (hr.pk _).ver | exact hx.b_chunk.up | exact hx.b_mate.up | exact hx.b_g.up | exact hx.b_chunk.half | exact hx.b_chunk.or1 | exact hx.b_mate.half | exact hx.b_mate.or1 | exact hx.b_g.half | exact hx.b_g.or1 | exact hx.cap | exact hx.ii | exact hx.li | exact Bd.sm (by omega) | exact Bd.sm (by omega) | (have h1 := hx.ii; have h2 := hx.li; have h3 := cellsD_le (m := x.mate) hx.cap; omega) | (first | exact hr.load _ | exact hr.store (by first | exact (hr.pk _).up | exact (hr.pk _).half | exact (hr.pk _).ver | exact hx.b_chunk.up | exact hx.b_mate.up | exact hx.b_g.up | exact hx.b_chunk.half | exact hx.b_chunk.or1 | exact hx.b_mate.half | exact hx.b_mate.or1 | exact hx.b_g.half | exact hx.b_g.or1 | exact hx.cap | exact hx.ii | exact hx.li | exact Bd.sm (by omega) | exact Bd.sm (by omega) | (have h1 := hx.ii; have h2 := hx.li; have h3 := cellsD_le (m := x.mate) hx.cap; omega)) | exact hr.swap (by first | exact (hr.pk _).up | exact (hr.pk _).half | exact (hr.pk _).ver | exact hx.b_chunk.up | exact hx.b_mate.up | exact hx.b_g.up | exact hx.b_chunk.half | exact hx.b_chunk.or1 | exact hx.b_mate.half | exact hx.b_mate.or1 | exact hx.b_g.half | exact hx.b_g.or1 | exact hx.cap | exact hx.ii | exact hx.li | exact Bd.sm (by omega) | exact Bd.sm (by omega) | (have h1 := hx.ii; have h2 := hx.li; have h3 := cellsD_le (m := x.mate) hx.cap; omega)) | exact hr.add (by omega) | exact hr.up)
theorem Dp.bd.step {n k : Nat} {x : Dp} {r : Rr} (hx : x.bd k) (hr : r.okk n k) : (x.step r).1.bd (k + 1) ∧ (x.step r).2.okk n (k + 1) := by
  unfold Dp.step
  repeat' split
  all_goals refine ⟨⟨?_, ?_, ?_, ?_, ?_, ?_, ?_, ?_, ?_⟩, ?_⟩
  all_goals (try dsimp only [Dp.head])
  all_goals first | first | exact (hr.pk _).up | exact (hr.pk _).half | exact (hr.pk _).ver | exact hx.b_chunk.up | exact hx.b_mate.up | exact hx.b_repl.up | exact hx.b_m.up | exact hx.b_cur.up | exact hx.b_w.up | exact hx.b_n.up | exact hx.b_stuck.up | exact hx.b_chunk.half | exact hx.b_chunk.or1 | exact hx.b_mate.half | exact hx.b_mate.or1 | exact hx.b_repl.half | exact hx.b_repl.or1 | exact hx.b_m.half | exact hx.b_m.or1 | exact hx.b_cur.half | exact hx.b_cur.or1 | exact hx.b_w.half | exact hx.b_w.or1 | exact hx.b_n.half | exact hx.b_n.or1 | exact hx.b_stuck.half | exact hx.b_stuck.or1 | exact hx.th | exact Bd.sm (by have := hx.th; omega) | exact Bd.sm (by omega) | exact Bd.next | (first | exact hr.load _ | exact hr.store (by first | exact (hr.pk _).up | exact (hr.pk _).half | exact (hr.pk _).ver | exact hx.b_chunk.up | exact hx.b_mate.up | exact hx.b_repl.up | exact hx.b_m.up | exact hx.b_cur.up | exact hx.b_w.up | exact hx.b_n.up | exact hx.b_stuck.up | exact hx.b_chunk.half | exact hx.b_chunk.or1 | exact hx.b_mate.half | exact hx.b_mate.or1 | exact hx.b_repl.half | exact hx.b_repl.or1 | exact hx.b_m.half | exact hx.b_m.or1 | exact hx.b_cur.half | exact hx.b_cur.or1 | exact hx.b_w.half | exact hx.b_w.or1 | exact hx.b_n.half | exact hx.b_n.or1 | exact hx.b_stuck.half | exact hx.b_stuck.or1 | exact hx.th | exact Bd.sm (by have := hx.th; omega) | exact Bd.sm (by omega) | exact Bd.next) | exact hr.swap (by first | exact (hr.pk _).up | exact (hr.pk _).half | exact (hr.pk _).ver | exact hx.b_chunk.up | exact hx.b_mate.up | exact hx.b_repl.up | exact hx.b_m.up | exact hx.b_cur.up | exact hx.b_w.up | exact hx.b_n.up | exact hx.b_stuck.up | exact hx.b_chunk.half | exact hx.b_chunk.or1 | exact hx.b_mate.half | exact hx.b_mate.or1 | exact hx.b_repl.half | exact hx.b_repl.or1 | exact hx.b_m.half | exact hx.b_m.or1 | exact hx.b_cur.half | exact hx.b_cur.or1 | exact hx.b_w.half | exact hx.b_w.or1 | exact hx.b_n.half | exact hx.b_n.or1 | exact hx.b_stuck.half | exact hx.b_stuck.or1 | exact hx.th | exact Bd.sm (by have := hx.th; omega) | exact Bd.sm (by omega) | exact Bd.next) | exact hr.add (by omega) | exact hr.up)
end Go.Proofs.YtbolanigdkgbdaaGreat
namespace Go.Proofs.YtbolanigdkgbdaaGreat
open Go Go.RowKit
set_option linter.unusedVariables false
set_option maxHeartbeats 1000000
theorem putD_le (l : List Itm) (y : Itm) : (putD l y).length ≤ l.length + 1 := by
  unfold putD
  split
  · simp
  · simp only [List.length_append, List.length_take, List.length_drop, List.length_cons, List.length_nil]; omega
theorem metD_le (l : List Int) (v : Int) : (metD l v).length ≤ l.length + 1 := by
  unfold metD
  split
  · simp only [List.length_append, List.length_take, List.length_drop, List.length_cons, List.length_nil]; omega
  · omega
structure Dl.bd (k : Nat) (x : Dl) : Prop where
  b_chunk : Bd k x.chunk
  b_s : Bd k x.s
  b_g : Bd k x.g
  cap : 0 ≤ x.cap ∧ x.cap ≤ 16
  ii : 0 ≤ x.i ∧ x.i ≤ 16
  cc : x.count ≤ 16
  li : x.line = 0 ∨ x.line = 1 ∨ x.i < x.count
  l1 : x.line = 1 → x.i = 0
  ll : (x.l.length : Int) ≤ x.i
theorem Dl.bd.le {k j : Nat} {x : Dl} (h : x.bd k) (hj : k ≤ j) : x.bd j := ⟨h.b_chunk.le hj, h.b_s.le hj, h.b_g.le hj, h.cap, h.ii, h.cc, h.li, h.l1, h.ll⟩
theorem Dl.bd.next {k : Nat} {x : Dl} (h1 : Bd k x.chunk) (h2 : Bd k x.s) (h3 : Bd k x.g) (hc : 0 ≤ x.cap ∧ x.cap ≤ 16) (hi : -1 ≤ x.i ∧ (x.i < x.count ∨ x.i = -1) ∧ x.count ≤ 16) (hl : (x.l.length : Int) ≤ x.i + 1) : x.next.bd k := by
  unfold Dl.next
  split <;> refine ⟨h1, h2, h3, hc, ?_, ?_, ?_, ?_, ?_⟩ <;> dsimp only <;> omega
theorem Dl.bd.seven {k : Nat} {x : Dl} (h1 : Bd k x.chunk) (h2 : Bd k x.s) (h3 : Bd k x.g) (hc : 0 ≤ x.cap ∧ x.cap ≤ 16) (hi : 0 ≤ x.i ∧ x.i < x.count ∧ x.count ≤ 16) (hl : (x.l.length : Int) ≤ x.i) : x.seven.bd k := by
  unfold Dl.seven
  split
  · exact Dl.bd.next h1 h2 h3 hc (by (try dsimp only); omega) (by (try dsimp only); omega)
  · refine ⟨h1, h2, h3, hc, ?_, ?_, ?_, ?_, ?_⟩ <;> dsimp only <;> omega
theorem Dl.bd.step {n k : Nat} {x : Dl} {r : Rr} (hx : x.bd k) (hr : r.okk n k) : (x.step r).1.bd (k + 1) ∧ (x.step r).2.okk n (k + 1) := by
  have h1 := hx.b_chunk.up; have h2 := hx.b_s.up; have h3 := hx.b_g.up; have hc := hx.cap; have hi := hx.ii; have hcc := hx.cc; have hli := hx.li; have hl1 := hx.l1; have hll := hx.ll
  unfold Dl.step
  repeat' split
  all_goals refine ⟨?_, ?_⟩
  all_goals first
    | exact hr.load _
    | exact hr.swap (Bd.sm (by omega))
    | exact hr.up
    | exact hx.le (Nat.le_succ k)
    | exact Dl.bd.next h1 h2 h3 hc (by (try dsimp only); omega) (by (try dsimp only); omega)
    | exact Dl.bd.next h1 (hr.pk _).up h3 hc (by (try dsimp only); omega) (by (try dsimp only); omega)
    | exact Dl.bd.next h1 h2 h3 hc (by (try dsimp only); omega) (by (try dsimp only); have := putD_le x.l ⟨x.k, verD x.s, r.peek ((x.chunk + 7 + 3 * x.i) + 2)⟩; omega)
    | exact Dl.bd.seven h1 h2 h3 hc (by (try dsimp only); omega) (by (try dsimp only); omega)
    | exact Dl.bd.seven h1 (hr.pk _).up h3 hc (by (try dsimp only); omega) (by (try dsimp only); omega)
    | (refine ⟨h1, ?_, ?_, hc, ?_, ?_, ?_, ?_, ?_⟩ <;> dsimp only <;> first | exact h2 | exact h3 | exact (hr.pk _).up | omega)
structure Dn.bd (k : Nat) (x : Dn) : Prop where
  b_e : Bd k x.e
  b_v : Bd k x.v
  th : 1 ≤ x.th ∧ x.th ≤ 16
  tt : 0 ≤ x.t ∧ x.t ≤ x.th
  lt : x.line = 0 ∨ x.t < x.th
  ll : (x.l.length : Int) ≤ x.t
theorem Dn.bd.le {k j : Nat} {x : Dn} (h : x.bd k) (hj : k ≤ j) : x.bd j := ⟨h.b_e.le hj, h.b_v.le hj, h.th, h.tt, h.lt, h.ll⟩
theorem Dn.bd.next {k : Nat} {x : Dn} (h1 : Bd k x.e) (h2 : Bd k x.v) (ht : 1 ≤ x.th ∧ x.th ≤ 16) (h3 : 0 ≤ x.t ∧ x.t < x.th) (hl : (x.l.length : Int) ≤ x.t + 1) : x.next.bd k := by
  unfold Dn.next
  split <;> refine ⟨h1, h2, ht, ?_, ?_, ?_⟩ <;> dsimp only <;> omega
theorem Dn.bd.step {n k : Nat} {x : Dn} {r : Rr} (hx : x.bd k) (hr : r.okk n k) : (x.step r).1.bd (k + 1) ∧ (x.step r).2.okk n (k + 1) := by
  have h1 := hx.b_e.up; have h2 := hx.b_v.up; have ht := hx.th; have htt := hx.tt; have hlt := hx.lt; have hll := hx.ll
  unfold Dn.step
  repeat' split
  all_goals refine ⟨?_, ?_⟩
  all_goals first
    | exact hr.load _
    | exact hr.swap Bd.claim
    | exact hr.add (by omega)
    | exact hr.up
    | exact hx.le (Nat.le_succ k)
    | exact Dn.bd.next h1 h2 ht (by (try dsimp only); omega) (by (try dsimp only); omega)
    | exact Dn.bd.next (hr.pk _).up h2 ht (by (try dsimp only); omega) (by (try dsimp only); omega)
    | exact Dn.bd.next (hr.pk _).up h2 ht (by (try dsimp only); omega) (by (try dsimp only); have := metD_le x.l ((r.peek (3 + x.t)) % 16777216 - 2); omega)
    | exact Dn.bd.next h1 h2 ht (by (try dsimp only); omega) (by (try dsimp only); have := metD_le x.l ((r.peek (3 + x.t)) % 16777216 - 2); omega)
    | (refine ⟨?_, ?_, ht, ?_, ?_, ?_⟩ <;> dsimp only <;> first | exact h1 | exact h2 | exact (hr.pk _).up | omega)
theorem insF_mem {out : List Itm} {x y : Itm} (h : y ∈ insF out x) : y = x ∨ y ∈ out := by
  unfold insF at h
  simp only [List.mem_append, List.mem_singleton] at h
  rcases h with (h | h) | h
  · exact .inr (List.mem_of_mem_take h)
  · exact .inl h
  · exact .inr (List.mem_of_mem_drop h)
theorem sortF_mem {l : List Itm} {y : Itm} (h : y ∈ sortF l) : y ∈ l := by
  have : ∀ (l o : List Itm), y ∈ l.foldl insF o → y ∈ o ∨ y ∈ l := by
    intro l
    induction l with
    | nil => intro o h; exact .inl h
    | cons x l ih =>
      intro o h
      rcases ih _ h with h | h
      · rcases insF_mem h with h | h
        · exact .inr (h ▸ .head _)
        · exact .inl h
      · exact .inr (.tail _ h)
  rcases this l [] h with h | h
  · cases h
  · exact h
theorem keepF_mem {s : List Itm} {vs : List Int} {y : Itm} : ∀ {n : Nat}, n ≤ s.length → y ∈ keepF s vs n → y ∈ s
  | 0, _, h => nomatch h
  | n + 1, hn, h => by
    unfold keepF at h
    split at h
    · rcases List.mem_append.1 h with h | h
      · exact keepF_mem (by omega) h
      · rw [List.mem_singleton.1 h]; exact gE_mem' (by omega)
    · exact keepF_mem (by omega) h
theorem grpS_mem {h : Int} {G : List (List Itm)} {own g : List Itm} {y : Itm} (hG : 0 < G.length) (hg : g ∈ grpS h G own) (hy : y ∈ g) : y ∈ own ∨ ∃ g' ∈ G, y ∈ g' := by
  have h1 : ∀ g ∈ openG h G own.length, y ∈ g → ∃ g' ∈ G, y ∈ g' := by
    unfold openG
    split
    · intro g hg hy
      rcases List.mem_append.1 hg with hg | hg
      · exact ⟨g, hg, hy⟩
      · simp at hg; subst hg; cases hy
    · exact fun g hg hy => ⟨g, hg, hy⟩
  have hpos := openG_pos (h := h) (n := own.length) hG
  unfold grpS putG at hg
  rcases List.mem_or_eq_of_mem_set hg with hg | hg
  · exact .inr (h1 g hg hy)
  · subst hg
    rcases List.mem_append.1 hy with hy | hy
    · refine .inr (h1 (lastG (openG h G own.length)) ?_ hy)
      unfold lastG; rw [List.getD_eq_getElem?_getD, List.getElem?_eq_getElem (by omega)]; exact List.getElem_mem _
    · exact .inl hy
theorem runs_mem : ∀ (n : Nat) (l : List Itm), l.length ≤ n → ∀ g ∈ runs l, ∀ y ∈ g, y ∈ l
  | _, [], _, g, hg, _, _ => by rw [runs] at hg; cases hg
  | 0, x :: l, h, _, _, _, _ => by simp at h
  | n + 1, x :: l, h, g, hg, y, hy => by
    rw [runs] at hg
    rcases List.mem_cons.1 hg with rfl | hg
    · rcases List.mem_cons.1 hy with rfl | hy
      · exact .head _
      · exact .tail _ ((List.takeWhile_sublist _).subset hy)
    · have hl := (List.dropWhile_sublist (fun y : Itm => decide (y.key = x.key)) (l := l)).length_le
      exact .tail _ ((List.dropWhile_sublist _).subset (runs_mem n _ (by simp at h; omega) g hg y hy))
theorem runs_le : ∀ (n : Nat) (l : List Itm), l.length ≤ n → (runs l).length ≤ l.length
  | _, [], _ => by rw [runs]; exact Nat.le_refl _
  | 0, x :: l, h => by simp at h
  | n + 1, x :: l, h => by
    have hl := (List.dropWhile_sublist (fun y : Itm => decide (y.key = x.key)) (l := l)).length_le
    have := runs_le n (l.dropWhile fun y => decide (y.key = x.key)) (by simp at h; omega)
    rw [runs]; simp; omega
theorem splitR_mem {h : Int} {l : List Itm} {g : List Itm} {y : Itm} (hg : g ∈ splitR h [[]] l) (hy : y ∈ g) : y ∈ l := by
  have : ∀ (R G : List (List Itm)), 0 < G.length → ∀ g ∈ R.foldl (grpS h) G, y ∈ g → (∃ g' ∈ R, y ∈ g') ∨ ∃ g' ∈ G, y ∈ g' := by
    intro R
    induction R with
    | nil => intro G _ g hg hy; exact .inr ⟨g, hg, hy⟩
    | cons r R ih =>
      intro G hG g hg hy
      rcases ih _ (grpS_pos hG) g hg hy with ⟨g', h1, h2⟩ | ⟨g', h1, h2⟩
      · exact .inl ⟨g', .tail _ h1, h2⟩
      · rcases grpS_mem hG h1 h2 with h3 | h3
        · exact .inl ⟨r, .head _, h3⟩
        · exact .inr h3
  rcases this (runs l) [[]] (by simp) g hg hy with ⟨g', h1, h2⟩ | ⟨g', h1, h2⟩
  · exact runs_mem l.length l (Nat.le_refl _) g' h1 y h2
  · simp at h1; subst h1; cases h2
theorem splitR_le (h : Int) (l : List Itm) : (splitR h [[]] l).length ≤ l.length + 1 ∧ 1 ≤ (splitR h [[]] l).length := by
  have : ∀ (R G : List (List Itm)), (R.foldl (grpS h) G).length ≤ G.length + R.length ∧ G.length ≤ (R.foldl (grpS h) G).length := by
    intro R
    induction R with
    | nil => intro G; simp
    | cons r R ih =>
      intro G
      have h1 := ih (grpS h G r)
      have h2 := grpS_len (h := h) (G := G) (own := r)
      simp only [List.foldl_cons, List.length_cons]; omega
  have h1 := this (runs l) [[]]
  have h2 := runs_le l.length l (Nat.le_refl _)
  unfold splitR
  simp only [List.length_cons, List.length_nil] at h1
  omega
end Go.Proofs.YtbolanigdkgbdaaGreat
namespace Go.Proofs.YtbolanigdkgbdaaGreat
open Go Go.RowKit
set_option linter.unusedVariables false
theorem FnX.mono {P : Program} {f : FuncId} {args : List Value} {S A : Hp} {R R' : Value → Hp → Prop} (h : FnX P f args S A R) (hR : ∀ v N, R v N → R' v N) : FnX P f args S A R' :=
  ⟨h.1, fun w hw => Calls.mono (h.2 w hw) fun e w' ⟨v, N', h1, h2, h3⟩ => ⟨v, N', hR _ _ h1, h2, h3⟩⟩
theorem StO.ow {o1 o2 : List Nat} {w0 w : World} {S N H : Hp} (h : StO o1 w0 w S N H) (ho : ∀ k, k ∈ o1 ↔ k ∈ o2) : StO o2 w0 w S N H :=
  ⟨h.os, h.tape, h.output, h.size, h.has, h.hasS, h.nodup, h.apart, fun e he k hk => (h.fresh e he k hk).imp id (ho k).1, fun b h1 h2 h3 => h.old b h1 h2 fun h4 => h3 ((ho b).1 h4)⟩
theorem FnX.perm {P : Program} {f : FuncId} {args : List Value} {S A A' : Hp} {R : Value → Hp → Prop} (h : FnX P f args S A R) (hp : A.Perm A') : FnX P f args S A' R := by
  have hk : ∀ k, k ∈ keys A ↔ k ∈ keys A' := fun k => (hp.filterMap _).mem_iff
  refine ⟨h.1, fun w hw => ?_⟩
  have h1 : @St ⟨[], keys A⟩ w w S A [] := StO.ow (@St.perm ⟨[], keys A'⟩ _ _ _ _ _ _ hw hp.symm) fun k => (hk k).symm
  exact Calls.mono (h.2 w h1) fun e w' ⟨v, N', h2, h3, h4⟩ => ⟨v, N', h2, h3, StO.ow h4 hk⟩
theorem FnX.ofM {P : Program} {f : FuncId} {args : List Value} {S A B : Hp} {x : Value} (h : Fn P f args S A (IsM x B)) (hk : keys B = keys A) : FnX P f args S A (IsO x B) := by
  refine ⟨h.1, fun w hw => ?_⟩
  have h1 : @St noDf w w S [] A := ⟨rfl, rfl, rfl, Nat.le_refl _, fun e he => hw.has e (by simpa using he), hw.hasS, by have := hw.nodup; rw [List.append_nil] at this; exact this, fun k hk1 => by have := hw.apart k hk1; rw [List.append_nil] at this; exact this, (fun e he => nomatch he), fun b _ _ _ => rfl⟩
  refine Calls.mono (h.2 w h1) fun e w' ⟨v, N', H', h2, h3, h4⟩ => ?_
  obtain ⟨rfl, rfl, rfl⟩ := h2
  refine ⟨_, _, ⟨rfl, rfl⟩, h3, ⟨h4.os, h4.tape, h4.output, h4.size, fun e he => h4.has e (by simpa using he), h4.hasS, by have := h4.nodup; rw [List.nil_append] at this; rw [List.append_nil]; exact this, fun k hk1 => by have := h4.apart k hk1; rw [List.nil_append] at this; rw [List.append_nil]; exact this, fun e he k hke => .inr ?_, fun b h5 _ h6 => h4.old b h5 (by rw [hk]; exact h6) noOwN⟩⟩
  rw [← hk]; exact mem_keys he hke
theorem FnX.frame {P : Program} {f : FuncId} {args : List Value} {S A : Hp} {R : Value → Hp → Prop} (T : Hp) (h : FnX P f args S A R) : FnX P f args S (A ++ T) (fun v N => ∃ B, R v B ∧ N = B ++ T) := by
  refine ⟨h.1, fun w hw => ?_⟩
  have h1 : @St ⟨[], keys A⟩ w w S A [] := StO.mk rfl rfl rfl (Nat.le_refl _) (fun e he => hw.has e (by rw [List.append_nil] at he ⊢; exact List.mem_append_left _ he)) hw.hasS
    (by have := hw.nodup; rw [List.append_nil, keys_append] at this; rw [List.append_nil]; exact (List.nodup_append.1 this).1)
    (fun k hk => by have := hw.apart k hk; rw [List.append_nil, keys_append] at this; rw [List.append_nil]; exact fun h2 => this (List.mem_append_left _ h2))
    (fun e he k hk => .inr (mem_keys he hk)) (fun _ _ _ _ => rfl)
  refine Calls.mono (h.2 w h1) fun e w' ⟨v, B, h2, h3, h4⟩ => ⟨v, B ++ T, ⟨B, h2, rfl⟩, h3, ?_⟩
  exact @St.callX ⟨[], keys (A ++ T)⟩ _ _ _ _ _ _ _ _ _ _ hw (.refl _) h4
theorem FnX.conv {P : Program} {f : FuncId} {args : List Value} {S A : Hp} {R R' : Value → Hp → Prop} (h : FnX P f args S A R) (hR : ∀ v N, R v N → ∃ M N' : Hp, M.Sublist N ∧ M.Perm N' ∧ R' v N') : FnX P f args S A R' :=
  ⟨h.1, fun w hw => Calls.mono (h.2 w hw) fun e w' ⟨v, N, h1, h2, h3⟩ => by
    obtain ⟨M, N', h4, h5, h6⟩ := hR v N h1
    exact ⟨v, N', h6, h2, @St.perm ⟨[], keys A⟩ _ _ _ _ _ _ (StO.ow (@St.forget ⟨[], keys A⟩ _ _ _ _ _ _ h3 h4) fun _ => Iff.rfl) h5⟩⟩
theorem FnX.stepX {P : Program} {f : FuncId} {args : List Value} {A T A' : Hp} {R R' : Value → Hp → Prop} (h : FnX P f args [] A R) (hp : (A ++ T).Perm A') (hR : ∀ v B, R v B → ∃ M N' : Hp, M.Sublist (B ++ T) ∧ M.Perm N' ∧ R' v N') : FnX P f args [] A' R' :=
  ((h.frame T).conv fun v N ⟨B, h1, h2⟩ => by subst h2; exact hR v B h1).perm hp
theorem FnX.stepM {P : Program} {f : FuncId} {args : List Value} {A B T A' N' : Hp} {x : Value} {R' : Value → Hp → Prop} (h : Fn P f args [] A (IsM x B)) (hk : keys B = keys A) (hp : (A ++ T).Perm A') (hq : (B ++ T).Perm N') (hR : R' x N') : FnX P f args [] A' R' :=
  (FnX.ofM h hk).stepX hp fun v C ⟨h1, h2⟩ => by subst h1 h2; exact ⟨_, _, .refl _, hq, hR⟩
theorem perm312 {a b c : Ent} {T : Hp} : ([a, b, c] ++ T).Perm (b :: c :: a :: T) := (List.perm_append_comm (l₁ := [a]) (l₂ := [b, c])).append_right T
end Go.Proofs.YtbolanigdkgbdaaGreat
