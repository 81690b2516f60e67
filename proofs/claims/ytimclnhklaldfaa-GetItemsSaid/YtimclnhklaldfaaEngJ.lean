/- The verifier's own engine, tenth part: regions in which several effects may come up in any order; chunks. -/
import Derived.Test.YtimclnhklaldfaaEngI
namespace Go.Proofs.Ytimclnhklaldfaa
open Go Go.RowKit
set_option linter.unusedSectionVars false
variable [Df]
set_option linter.unusedVariables false
/-- What may come up behind some steps. -/
inductive Br where
  | done
  | two (i j : Nat) (l1 : List (Bool × Nat)) (b1 : Br) (l2 : List (Bool × Nat)) (b2 : Br)
  | three (i j k : Nat) (l1 : List (Bool × Nat)) (b1 : Br) (l2 : List (Bool × Nat)) (b2 : Br) (l3 : List (Bool × Nat)) (b3 : Br)
def wpBr (P : Program) (ops : Array Oper) (C : World → Prop) (K : Act → World → Prop) : Br → Act → World → Prop
  | .done => K
  | .two i j l1 b1 l2 b2 => fun a w => wpSch P ops C (wpBr P ops C K b1) ((false, i) :: l1) a w ∧ wpSch P ops C (wpBr P ops C K b2) ((false, j) :: l2) a w
  | .three i j k l1 b1 l2 b2 l3 b3 => fun a w => wpSch P ops C (wpBr P ops C K b1) ((false, i) :: l1) a w ∧ wpSch P ops C (wpBr P ops C K b2) ((false, j) :: l2) a w ∧ wpSch P ops C (wpBr P ops C K b3) ((false, k) :: l3) a w
/-- How many steps there are, on each way. -/
def brLen : Br → Nat → Bool
  | .done, n => n == 0
  | .two _ _ l1 b1 l2 b2, n => Nat.ble (l1.length + 1) n && Nat.ble (l2.length + 1) n && brLen b1 (n - (l1.length + 1)) && brLen b2 (n - (l2.length + 1))
  | .three _ _ _ l1 b1 l2 b2 l3 b3, n => Nat.ble (l1.length + 1) n && Nat.ble (l2.length + 1) n && Nat.ble (l3.length + 1) n && brLen b1 (n - (l1.length + 1)) && brLen b2 (n - (l2.length + 1)) && brLen b3 (n - (l3.length + 1))
def thenB (md : Region.Mode) (ops : Array Oper) (l : List (Bool × Nat)) (f : Array Bool → Bool) (listed : Array Bool) : Bool := match schTo md ops l listed with
  | some x => f x
  | none => false
def brOk (md : Region.Mode) (ops : Array Oper) : Br → Array Bool → Bool
  | .done, listed => (Region.ready md ops listed).isEmpty
  | .two i j l1 b1 l2 b2, listed => (Region.ready md ops listed == [i, j]) && thenB md ops l1 (brOk md ops b1) (listed.setIfInBounds i true) && thenB md ops l2 (brOk md ops b2) (listed.setIfInBounds j true)
  | .three i j k l1 b1 l2 b2 l3 b3, listed => (Region.ready md ops listed == [i, j, k]) && thenB md ops l1 (brOk md ops b1) (listed.setIfInBounds i true) && thenB md ops l2 (brOk md ops b2) (listed.setIfInBounds j true) && thenB md ops l3 (brOk md ops b3) (listed.setIfInBounds k true)
section
variable {P : Program} {ops : Array Oper} {C : World → Prop} {md : Region.Mode} {KK : Act → World → Prop}
theorem thenB_some {l : List (Bool × Nat)} {f : Array Bool → Bool} {listed : Array Bool} (h : thenB md ops l f listed = true) : ∃ x, schTo md ops l listed = some x ∧ f x = true := by
  unfold thenB at h
  split at h
  · rename_i x hx; exact ⟨x, hx, h⟩
  · cases h
theorem wpBr_to (hs : Region.noSelect ops = true) : ∀ (b : Br) (n : Nat) (listed : Array Bool) (a : Act) (w : World), C w → brLen b n = true → brOk md ops b listed = true → wpBr P ops C KK b a w → wpAnyH P md ops (NoQ KK) C n listed a w
  | .done, n, listed, a, w, hC, hn, hk, h => by
    have : n = 0 := by simpa [brLen] using hn
    subst this
    exact wpAnyH_done (by simpa [brOk] using hk) h 0
  | .two i j l1 b1 l2 b2, n, listed, a, w, hC, hn, hk, h => by
    simp only [brLen, Bool.and_eq_true, Nat.ble_eq] at hn
    simp only [brOk, Bool.and_eq_true, beq_iff_eq] at hk
    obtain ⟨⟨⟨n1, n2⟩, n3⟩, n4⟩ := hn
    obtain ⟨⟨k0, k1⟩, k2⟩ := hk
    obtain ⟨x1, s1, t1⟩ := thenB_some k1
    obtain ⟨x2, s2, t2⟩ := thenB_some k2
    obtain ⟨m, rfl⟩ : ∃ m, n = m + 1 := ⟨n - 1, by omega⟩
    refine wpAnyH_all k0 (by simp) fun q hq => ?_
    have hq' : q = i ∨ q = j := by simpa using hq
    rcases hq' with rfl | rfl
    · refine wpOp_mono (fun a' w' h' => ⟨h'.1, ?_⟩) (wpOp_QF h.1)
      have := wpSch_to (md := md) hs (m - l1.length) x1 (fun a w hC hh => wpBr_to hs b1 _ x1 a w hC (by have e : m - l1.length = m + 1 - (l1.length + 1) := by omega
                                                                                                        rw [e]; exact n3) t1 hh) l1 _ a' w' h'.1 s1 h'.2
      rwa [show m - l1.length + l1.length = m from by omega] at this
    · refine wpOp_mono (fun a' w' h' => ⟨h'.1, ?_⟩) (wpOp_QF h.2)
      have := wpSch_to (md := md) hs (m - l2.length) x2 (fun a w hC hh => wpBr_to hs b2 _ x2 a w hC (by have e : m - l2.length = m + 1 - (l2.length + 1) := by omega
                                                                                                        rw [e]; exact n4) t2 hh) l2 _ a' w' h'.1 s2 h'.2
      rwa [show m - l2.length + l2.length = m from by omega] at this
  | .three i j k l1 b1 l2 b2 l3 b3, n, listed, a, w, hC, hn, hk, h => by
    simp only [brLen, Bool.and_eq_true, Nat.ble_eq] at hn
    simp only [brOk, Bool.and_eq_true, beq_iff_eq] at hk
    obtain ⟨⟨⟨⟨⟨n1, n2⟩, n3⟩, n4⟩, n5⟩, n6⟩ := hn
    obtain ⟨⟨⟨k0, k1⟩, k2⟩, k3⟩ := hk
    obtain ⟨x1, s1, t1⟩ := thenB_some k1
    obtain ⟨x2, s2, t2⟩ := thenB_some k2
    obtain ⟨x3, s3, t3⟩ := thenB_some k3
    obtain ⟨m, rfl⟩ : ∃ m, n = m + 1 := ⟨n - 1, by omega⟩
    refine wpAnyH_all k0 (by simp) fun q hq => ?_
    have hq' : q = i ∨ q = j ∨ q = k := by simpa using hq
    rcases hq' with rfl | rfl | rfl
    · refine wpOp_mono (fun a' w' h' => ⟨h'.1, ?_⟩) (wpOp_QF h.1)
      have := wpSch_to (md := md) hs (m - l1.length) x1 (fun a w hC hh => wpBr_to hs b1 _ x1 a w hC (by have e : m - l1.length = m + 1 - (l1.length + 1) := by omega
                                                                                                        rw [e]; exact n4) t1 hh) l1 _ a' w' h'.1 s1 h'.2
      rwa [show m - l1.length + l1.length = m from by omega] at this
    · refine wpOp_mono (fun a' w' h' => ⟨h'.1, ?_⟩) (wpOp_QF h.2.1)
      have := wpSch_to (md := md) hs (m - l2.length) x2 (fun a w hC hh => wpBr_to hs b2 _ x2 a w hC (by have e : m - l2.length = m + 1 - (l2.length + 1) := by omega
                                                                                                        rw [e]; exact n5) t2 hh) l2 _ a' w' h'.1 s2 h'.2
      rwa [show m - l2.length + l2.length = m from by omega] at this
    · refine wpOp_mono (fun a' w' h' => ⟨h'.1, ?_⟩) (wpOp_QF h.2.2)
      have := wpSch_to (md := md) hs (m - l3.length) x3 (fun a w hC hh => wpBr_to hs b3 _ x3 a w hC (by have e : m - l3.length = m + 1 - (l3.length + 1) := by omega
                                                                                                        rw [e]; exact n6) t3 hh) l3 _ a' w' h'.1 s3 h'.2
      rwa [show m - l3.length + l3.length = m from by omega] at this
end
section
variable {P : Program} {w0 : World} {n : Nat} {S N H : Hp} {l : Fr} {ops : Array Oper} {X : Act → World → Prop} {C : World → Prop}
theorem At.drawB {id : Nat} {Q : Exit → Act → World → Prop} (pre : List (Bool × Nat)) (b : Br) (hm : P.follows .mixedOrders = true)
    (hk : (Region.noSelect ops && Nat.ble pre.length ops.size && brLen b (ops.size - pre.length) && thenB .any ops pre (brOk .any ops b) (Array.replicate ops.size false)) = true)
    (h : At w0 n S l N H (wpSch P ops (Kept (S ++ (N ++ H))) (wpBr P ops (Kept (S ++ (N ++ H))) (Q .normal) b) pre)) :
    At w0 n S l N H ((Code.region id ops true).wp P Q) := fun a w ha hw => by
  simp only [Bool.and_eq_true, Nat.ble_eq] at hk
  obtain ⟨⟨⟨h1, h2⟩, h3⟩, h4⟩ := hk
  refine Code.wp_mono (noQ_imp fun _ _ h => h) (wp_region_held (S := Kept (S ++ (N ++ H))) hm ?_)
  obtain ⟨x, s1, t1⟩ := thenB_some h4
  have := wpSch_to (P := P) (md := .any) h1 (ops.size - pre.length) x (fun a w hC hh => wpBr_to h1 b _ x a w hC h3 t1 hh) pre _ a w.drew (cl_here hw.drew ha) s1 (h a w.drew ha hw.drew)
  rwa [show ops.size - pre.length + pre.length = ops.size from by omega] at this
theorem At.joinB {β : Type} {b : Br} (L : β → Fr) (NN : β → Hp) (hK : ∀ x, At w0 n S (L x) (NN x) H X)
    (h : (∀ x (l' : Fr) (N' : Hp), (∀ t v, look (L x) t = some v → look l' t = some v) → (NN x).Sublist N' → At w0 n S l' N' H X) → At w0 n S l N H (wpBr P ops C X b)) : At w0 n S l N H (wpBr P ops C X b) :=
  h fun x _ _ hl hN => At.weak hl hN (hK x)
theorem At.two {i j : Nat} {l1 l2 : List (Bool × Nat)} {b1 b2 : Br} (h1 : At w0 n S l N H (wpSch P ops C (wpBr P ops C X b1) ((false, i) :: l1))) (h2 : At w0 n S l N H (wpSch P ops C (wpBr P ops C X b2) ((false, j) :: l2))) :
    At w0 n S l N H (wpBr P ops C X (.two i j l1 b1 l2 b2)) := At.both h1 h2
theorem At.three {i j k : Nat} {l1 l2 l3 : List (Bool × Nat)} {b1 b2 b3 : Br} (h1 : At w0 n S l N H (wpSch P ops C (wpBr P ops C X b1) ((false, i) :: l1))) (h2 : At w0 n S l N H (wpSch P ops C (wpBr P ops C X b2) ((false, j) :: l2)))
    (h3 : At w0 n S l N H (wpSch P ops C (wpBr P ops C X b3) ((false, k) :: l3))) : At w0 n S l N H (wpBr P ops C X (.three i j k l1 b1 l2 b2 l3 b3)) := At.both h1 (At.both h2 h3)
theorem At.brDone (h : At w0 n S l N H X) : At w0 n S l N H (wpBr P ops C X .done) := h
end

/-! ### Chunks -/
structure Chk where
  a0 : Int
  a1 : Int
  a2 : Int
  a3 : Int
  a4 : Int
  a5 : Int
  a6 : Int
  a7 : Int
  u : SV
instance : Inhabited Chk := ⟨⟨0, 0, 0, 0, 0, 0, 0, 0, ⟨.slice none 0 0, rfl⟩⟩⟩
abbrev chK : Ek Chk := ⟨fun x => [.int .i64 x.a0, .int .i64 x.a1, .int .i64 x.a2, .int .i64 x.a3, .int .i64 x.a4, .int .i64 x.a5, .int .i64 x.a6, .int .i64 x.a7, x.u.1], 9, fun _ => rfl, fun x v hv => by
  simp at hv; rcases hv with rfl | rfl | rfl | rfl | rfl | rfl | rfl | rfl | rfl
  all_goals first | rfl | exact x.u.2⟩
/-- The cells of chunks. -/
abbrev csg (E : TypeId) (cs : List (Chk × List Cel)) : Hp := cs.map fun x => rowE cellK E x.1.u.1 x.2
section
variable {w0 : World} {n : Nat} {S N H : Hp} {l : Fr} {X : Act → World → Prop} {E : TypeId} {cs : List (Chk × List Cel)}
theorem At.csNew {A : Hp} {x : Chk} {ys : List Cel} (h : At w0 n S l (A ++ csg E (cs ++ [(x, ys)])) H X) : At w0 n S l (rowE cellK E x.u.1 ys :: (A ++ csg E cs)) H X := by
  refine At.perm ?_ h
  have : (rowE cellK E x.u.1 ys :: csg E cs).Perm (csg E (cs ++ [(x, ys)])) := by
    simp only [csg, List.map_append, List.map_cons, List.map_nil]; exact (List.perm_append_singleton _ _).symm
  exact (List.perm_middle.symm).trans (this.append_left A)
theorem chS {j : Int} (hs : (csg E cs).Sublist N) (hj : 0 ≤ j ∧ j < cs.length) : RdIn (fun w => St w0 w S N H) (gE cs j).1.u.1 cellK.sz (gE cs j).2.length (cellK.all (gE cs j).2) :=
  wS (E := E) (List.mem_append_right _ (List.mem_append_left _ (hs.subset (List.mem_map.2 ⟨gE cs j, gE_mem' hj, rfl⟩))))
end
theorem hone9 {a0 a1 a2 a3 a4 a5 a6 a7 : Int} {v : Value} (h : v.oneCell' = true) : (([.int .i64 a0, .int .i64 a1, .int .i64 a2, .int .i64 a3, .int .i64 a4, .int .i64 a5, .int .i64 a6, .int .i64 a7, v] : List Value).all fun v => v.oneCell') = true := by
  simp only [List.all_cons, List.all_nil, h]; rfl
theorem setL_all : ∀ (vs pre cs : List Value), vs.length = cs.length → setL (pre ++ cs) pre.length vs = pre ++ vs
  | [], pre, cs, h => by
    have : cs = [] := List.eq_nil_of_length_eq_zero h.symm
    subst this; rfl
  | v :: vs, pre, [], h => by simp at h
  | v :: vs, pre, c :: cs, h => by
    have e : (pre ++ c :: cs).set pre.length v = (pre ++ [v]) ++ cs := by simp
    have := setL_all vs (pre ++ [v]) cs (by simpa using h)
    rw [setL, e]
    simpa using this
/-- All cells of a block are stored. -/
theorem At.stAll {P : Program} {w0 : World} {n : Nat} {S N H : Hp} {l : Fr} {ops : Array Oper} {C : World → Prop} {K : Act → World → Prop} {r : List (Bool × Nat)} {i : Nat} {p x : Operand} {T ty : TypeId} {pos : String} {af : Array Edge} {gd : Option (Nat × Bool)} {b m : Nat} {vs : List Value} {cs : Array Value} {E : TypeId} {N' H' : Hp} (ho : ops[i]? = some ⟨none, .store T p x, ty, pos, af, gd⟩)
    (hg : wantG ops l ⟨none, .store T p x, ty, pos, af, gd⟩ = some true) (hs : (P.info? T).map (·.size) = some m) (hp : Ev n l true p (.pointer (some ⟨b, 0, none⟩))) (hx : Ev n l true x (.agg vs.toArray)) (hone : (vs.all fun v => v.oneCell') = true) (hj : Nat.beq m cs.size = true) (hj2 : vs.length = m)
    (hu : Up N H (.blk b (.cells cs E (0, 0))) (.blk b (.cells vs.toArray E (0, 0))) N' H')
    (h : Cl w0 S N' H' C ∧ At w0 n S l N' H' (wpSch P ops C K r)) : At w0 n S l N H (wpSch P ops C K ((false, i) :: r)) := by
  have hm : m = cs.size := Nat.eq_of_beq_eq_true hj
  have e : setFrom cs 0 vs = vs.toArray := by
    apply Array.toList_inj.1
    rw [setFrom_toList]
    have := setL_all vs [] cs.toList (by simp; omega)
    simpa using this
  rw [← e] at hu
  exact At.stN ho hg hs hp hx hone (by simp; omega) hj2 hu h
end Go.Proofs.Ytimclnhklaldfaa
