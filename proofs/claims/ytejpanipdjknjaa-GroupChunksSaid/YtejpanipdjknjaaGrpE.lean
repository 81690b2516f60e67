/- Calls that give rows of rows, and chunks. -/
import Derived.Test.YtejpanipdjknjaaL9P
import Derived.Test.YtejpanipdjknjaaG7
import Derived.Test.YtejpanipdjknjaaG10
import Derived.Test.YtejpanipdjknjaaL8
namespace Go.Proofs.Ytejpanipdjknjaa
open Go Go.RowKit
set_option linter.unusedVariables false
section
variable {P : Program} {w0 : World} {n : Nat} {S N H : Hp} {l : Fr} {ops : Array Oper} {C : World → Prop} {K : Act → World → Prop} {r : List (Bool × Nat)} {i : Nat}
theorem Cl.perm {N N' : Hp} (hp : N.Perm N') (h : Cl w0 S N' H C) : Cl w0 S N H C := fun w hw => h w (hw.perm hp)
theorem At.callRG {d : Nat} {xs : List Operand} {ats : Array TypeId} {ty : TypeId} {pos : String} {af : Array Edge} {gd : Option (Nat × Bool)} {f : FuncId} {vs : List Value} {S' : Hp} {Eo E : TypeId} {G : List (List Itm)}
    (ho : ops[i]? = some ⟨some d, .call { callee := .value (.func f), args := xs.toArray, argTypes := ats }, ty, pos, af, gd⟩) (hdn : Nat.blt d n = true) (hg : wantG ops l ⟨some d, .call { callee := .value (.func f), args := xs.toArray, argTypes := ats }, ty, pos, af, gd⟩ = some true)
    (hxs : Evs n l true xs vs) (hS : Rds (fun w => St w0 w S N H) S') (hc : Fn P f vs S' [] (IsG Eo E G))
    (h : ∀ v (gs : List (SV × List Itm)), gs.map (·.2) = G → Cl w0 S (rowE sK Eo v (gs.map (·.1)) :: (N ++ seg iK E gs)) H C ∧ At w0 n S ((d, true, v) :: l) (rowE sK Eo v (gs.map (·.1)) :: (N ++ seg iK E gs)) H (wpSch P ops C K r)) : At w0 n S l N H (wpSch P ops C K ((false, i) :: r)) :=
  At.callP (fst := []) (cap := []) ho hdn hg Ev.f hxs (by simp) hc hS.all (fun v N' H' hR => by
    obtain ⟨gs, hgs, rfl, rfl⟩ := hR
    obtain ⟨h1, h2⟩ := h v gs hgs
    have hp : ((rowE sK Eo v (gs.map (·.1)) :: seg iK E gs) ++ N).Perm (rowE sK Eo v (gs.map (·.1)) :: (N ++ seg iK E gs)) := List.Perm.cons _ List.perm_append_comm
    exact ⟨rfl, h1.perm hp, At.perm hp h2⟩)
theorem At.callRC {d : Nat} {xs : List Operand} {ats : Array TypeId} {ty : TypeId} {pos : String} {af : Array Edge} {gd : Option (Nat × Bool)} {f : FuncId} {vs : List Value} {S' : Hp} {Eo E : TypeId} {L : List (List Int × List Cel)}
    (ho : ops[i]? = some ⟨some d, .call { callee := .value (.func f), args := xs.toArray, argTypes := ats }, ty, pos, af, gd⟩) (hdn : Nat.blt d n = true) (hg : wantG ops l ⟨some d, .call { callee := .value (.func f), args := xs.toArray, argTypes := ats }, ty, pos, af, gd⟩ = some true)
    (hxs : Evs n l true xs vs) (hS : Rds (fun w => St w0 w S N H) S') (hc : Fn P f vs S' [] (IsC Eo E L))
    (h : ∀ v (cs : List (Chk × List Cel)), cs.map (fun x => (hd x.1, x.2)) = L → Cl w0 S (rowE chK Eo v (cs.map (·.1)) :: (N ++ csg E cs)) H C ∧ At w0 n S ((d, true, v) :: l) (rowE chK Eo v (cs.map (·.1)) :: (N ++ csg E cs)) H (wpSch P ops C K r)) : At w0 n S l N H (wpSch P ops C K ((false, i) :: r)) :=
  At.callP (fst := []) (cap := []) ho hdn hg Ev.f hxs (by simp) hc hS.all (fun v N' H' hR => by
    obtain ⟨cs, hcs, rfl, rfl⟩ := hR
    obtain ⟨h1, h2⟩ := h v cs hcs
    have hp : ((rowE chK Eo v (cs.map (·.1)) :: csg E cs) ++ N).Perm (rowE chK Eo v (cs.map (·.1)) :: (N ++ csg E cs)) := List.Perm.cons _ List.perm_append_comm
    exact ⟨rfl, h1.perm hp, At.perm hp h2⟩)
theorem segAll {α : Type} {k : Ek α} {E : TypeId} {gs : List (SV × List α)} (hs : (seg k E gs).Sublist N) : ∀ x ∈ gs, RdIn (fun w => St w0 w S N H) x.1.1 k.sz x.2.length (k.all x.2) := fun x hx =>
  wS (E := E) (List.mem_append_right _ (List.mem_append_left _ (hs.subset (List.mem_map.2 ⟨x, hx, rfl⟩))))
theorem segST {α : Type} [Inhabited α] {k : Ek α} {E : TypeId} {gs : List (SV × List α)} {j : Int} (hs : (seg k E gs).Sublist N) (hj : j.toNat < gs.length) : RdIn (fun w => St w0 w S N H) (gE gs j).1.1 k.sz (gE gs j).2.length (k.all (gE gs j).2) :=
  segAll hs _ (by unfold gE; rw [List.getD_eq_getElem?_getD, List.getElem?_eq_getElem hj]; exact List.getElem_mem _)
theorem segKT {α : Type} [Inhabited α] {k : Ek α} {E : TypeId} {gs : List (SV × List α)} {j : Int} (hs : (seg k E gs).Sublist N) (hj : j.toNat < gs.length) : RdIn (Kept (S ++ (N ++ H))) (gE gs j).1.1 k.sz (gE gs j).2.length (k.all (gE gs j).2) :=
  wK (E := E) (List.mem_append_right _ (List.mem_append_left _ (hs.subset (List.mem_map.2 ⟨gE gs j, (by unfold gE; rw [List.getD_eq_getElem?_getD, List.getElem?_eq_getElem hj]; exact List.getElem_mem _), rfl⟩))))
theorem cs_fst (cs : List (Chk × List Cel)) (j : Int) : gE (cs.map (fun x : Chk × List Cel => x.1)) j = (gE cs j).1 := gE_map (fun x : Chk × List Cel => x.1) rfl cs j
theorem csgST {E : TypeId} {cs : List (Chk × List Cel)} {j : Int} (hs : (csg E cs).Sublist N) (hj : j.toNat < cs.length) : RdIn (fun w => St w0 w S N H) (gE (cs.map (fun x : Chk × List Cel => x.1)) j).u.1 cellK.sz (gE cs j).2.length (cellK.all (gE cs j).2) := by
  rw [cs_fst]
  exact wS (E := E) (List.mem_append_right _ (List.mem_append_left _ (hs.subset (List.mem_map.2 ⟨gE cs j, (by unfold gE; rw [List.getD_eq_getElem?_getD, List.getElem?_eq_getElem hj]; exact List.getElem_mem _), rfl⟩))))
theorem csgKT {E : TypeId} {cs : List (Chk × List Cel)} {j : Int} (hs : (csg E cs).Sublist N) (hj : j.toNat < cs.length) : RdIn (Kept (S ++ (N ++ H))) (gE (cs.map (fun x : Chk × List Cel => x.1)) j).u.1 cellK.sz (gE cs j).2.length (cellK.all (gE cs j).2) := by
  rw [cs_fst]
  exact wK (E := E) (List.mem_append_right _ (List.mem_append_left _ (hs.subset (List.mem_map.2 ⟨gE cs j, (by unfold gE; rw [List.getD_eq_getElem?_getD, List.getElem?_eq_getElem hj]; exact List.getElem_mem _), rfl⟩))))
end
theorem gsAt {G : List (List Itm)} {gs : List (SV × List Itm)} (h : gs.map (·.2) = G) (j : Int) : (gE gs j).2 = gE G j := by rw [← h, gE_map (fun x : SV × List Itm => x.2) rfl]
theorem gsLen {G : List (List Itm)} {gs : List (SV × List Itm)} (h : gs.map (·.2) = G) : gs.length = G.length := by rw [← h, List.length_map]
theorem asN_snd (gs : List (SV × List Itm)) : (asN gs).map (fun x : Value × List Itm => x.2) = gs.map (·.2) := by simp [asN]
theorem asN_len (gs : List (SV × List Itm)) : (asN gs).length = gs.length := List.length_map _
theorem csLen {L : List (List Int × List Cel)} {cs : List (Chk × List Cel)} (h : cs.map (fun x => (hd x.1, x.2)) = L) : cs.length = L.length := by rw [← h, List.length_map]
theorem csAt {L : List (List Int × List Cel)} {cs : List (Chk × List Cel)} (h : cs.map (fun x => (hd x.1, x.2)) = L) {j : Int} (hj : j.toNat < cs.length) : (hd (gE (cs.map (fun x : Chk × List Cel => x.1)) j), (gE cs j).2) = gE L j := by
  subst h
  unfold gE
  simp [hj]
theorem split_is {l : List Itm} {cells : Int} : splitK (min (max cells 2) 16 / 2) (sortF l) (keysP (sortF l)) = grpF (max 2 (min cells 16) / 2) l := by rw [split_same, half_same]
theorem half_is {cells : Int} (h : 2 ≤ cells ∧ cells ≤ 16) : max 2 (min cells 16) / 2 = cells / 2 := by omega
theorem flat_step {G : List (List Itm)} {i : Nat} (h : i < G.length) : (G.take i).flatten ++ gE G (i : Int) = (G.take (i + 1)).flatten := by rw [take_snoc h]; simp
end Go.Proofs.Ytejpanipdjknjaa
