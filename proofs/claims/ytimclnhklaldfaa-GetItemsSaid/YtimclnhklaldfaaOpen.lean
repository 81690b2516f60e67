/- Arguments that are slices, as rows to read. -/
import Derived.Test.YtimclnhklaldfaaEngG
import Derived.ChangeSlices
import Derived.Deep.Slices
namespace Go.Proofs.Ytimclnhklaldfaa
open Go Go.RowKit Go.ChangeShapes Go.Deep
set_option linter.unusedVariables false
theorem cell_spot {w : World} {a : Addr} {v : Value} (h : w.cell? a = some v) : a.spot = none ∧ a.block < w.heap.size := by
  unfold World.cell? at h
  split at h
  · rename_i c e f hb
    split at h
    · cases h
    · rename_i hs
      refine ⟨by simpa using hs, ?_⟩
      rcases Nat.lt_or_ge a.block w.heap.size with h' | h'
      · exact h'
      · rw [Array.getElem?_eq_none h'] at hb; cases hb
  · cases h
theorem rd_of_cells {w : World} {a : Addr} {sz n cap : Nat} {xs : List Value} (hl : xs.length = n * sz) (hcap : n ≤ cap) (hm : cap ≤ maxLen) (hsz : 0 < sz) (h : ∀ j u, xs[j]? = some u → w.cell? (a.add j) = some u) : RdIs w (.slice (some a) n cap) sz n xs := by
  refine ⟨some a, cap, rfl, hcap, hm, hl, fun hn => ?_⟩
  have h0 : 0 < xs.length := by rw [hl]; exact Nat.mul_pos hn hsz
  have h1 := h 0 _ (List.getElem?_eq_getElem h0)
  have e0 : a.add 0 = a := by simp [Addr.add]
  rw [e0] at h1
  obtain ⟨h2, h3⟩ := cell_spot h1
  refine ⟨a.block, a.off, ?_, h3, fun j u hu => ?_⟩
  · cases a; simp at h2; subst h2; rfl
  · have := h j u hu
    cases a with
    | mk b o s => simp only at h2; subst h2; rwa [add_addr] at this
theorem open_rdZ {H : Type} {enc : TypeId × Value → H} {P : Program} {w : World} {base : Nat} {spare : Nat → Bool} {held : Bool} {t e : TypeId} {fuel : Nat} {cs : List Value} {x : DataW H × List MemPlace} (ht : P.underlying t = some (.slice e)) (he : P.underlying e = some (.int .i64)) (hc : P.cellsOf e = 1)
    (h : DataW.trod enc P w base spare held fuel t cs = some x) : ∃ v, ∃ l : List Int, cs = [v] ∧ RdIs w v 1 l.length (zK.all l) ∧ ∀ z ∈ l, (Lit.int .i64 z).wf = true := by
  have hz : ∀ l : List Int, zK.all l = l.map (Value.int .i64) := fun l => by
    induction l with
    | nil => rfl
    | cons x l ih => rw [Ek.all_cons, ih]; rfl
  rcases open_ints ht he hc h with ⟨rfl, rfl⟩ | ⟨a, len, cap, zs, rfl, hb, hl, hm, hzl, rfl, hcell, hwf⟩
  · exact ⟨_, [], rfl, ⟨none, 0, rfl, Nat.le_refl _, Nat.zero_le _, rfl, fun h => absurd h (Nat.lt_irrefl _)⟩, by simp⟩
  · have hle : len ≤ zs.length := by rw [hzl]; split <;> omega
    have hlen : (zs.take len).length = len := by rw [List.length_take]; omega
    refine ⟨_, zs.take len, rfl, ?_, fun z hz => hwf z (List.mem_of_mem_take hz)⟩
    rw [hlen, hz]
    refine rd_of_cells (by simp; omega) hl hm (by omega) fun j u hu => ?_
    have hj : j < len := by have := (List.getElem?_eq_some_iff.1 hu).1; simp at this; omega
    rw [hcell j (by omega), ← hu]
    simp [hj, List.getD, List.getElem?_eq_getElem (show j < zs.length by omega)]

theorem open_rdI {H : Type} {enc : TypeId × Value → H} {P : Program} {w : World} {base : Nat} {spare : Nat → Bool} {held : Bool} {t e : TypeId} {f0 f1 f2 : Field} {fuel : Nat} {cs : List Value} {x : DataW H × List MemPlace} (ht : P.underlying t = some (.slice e)) (he : P.underlying e = some (.struct #[f0, f1, f2])) (ce : P.cellsOf e = 3)
    (o0 : f0.offset = 0) (o1 : f1.offset = 1) (o2 : f2.offset = 2) (c0 : P.cellsOf f0.type = 1) (c1 : P.cellsOf f1.type = 1) (c2 : P.cellsOf f2.type = 1) (t0 : P.underlying f0.type = some (.int .i64)) (t1 : P.underlying f1.type = some (.int .i64)) (t2 : P.underlying f2.type = some (.int .i64))
    (h : DataW.trod enc P w base spare held fuel t cs = some x) : ∃ v, ∃ l : List Itm, cs = [v] ∧ RdIs w v 3 l.length (iK.all l) ∧ ∀ z ∈ l, (Lit.int .i64 z.key).wf = true ∧ (Lit.int .i64 z.ver).wf = true ∧ (Lit.int .i64 z.data).wf = true := by
  rcases open_slice ht h with ⟨rfl, rfl⟩ | ⟨a, len, cap, m, n, D, Pl, rfl, hb, hl, hm, hmm, rfl, hx⟩
  · exact ⟨_, [], rfl, ⟨none, 0, rfl, Nat.le_refl _, Nat.zero_le _, rfl, fun h => absurd h (Nat.lt_irrefl _)⟩, by simp⟩
  · have hlm : len ≤ m := by rw [hmm]; split <;> omega
    have each : ∀ i, i < m → ∃ q : Itm, (∀ c u, (iK.enc q)[c]? = some u → w.cell? (a.add (i * 3 + c)) = some u) ∧ (Lit.int .i64 q.key).wf = true ∧ (Lit.int .i64 q.ver).wf = true ∧ (Lit.int .i64 q.data).wf = true := by
      intro i hi
      obtain ⟨cs', h1, h2⟩ := hx i hi
      rw [ce] at h1
      obtain ⟨_, hlen, hcell⟩ := World.cells?_some h1
      obtain ⟨xs, k, hk, hxy, _, hxl, hf⟩ := DataW.trod_struct he h2
      match xs, hxl, cs', hlen with
      | [y0, y1, y2], _, [v0, v1, v2], _ =>
        have g0 := hf 0 f0 rfl
        have g1 := hf 1 f1 rfl
        have g2 := hf 2 f2 rfl
        simp [o0, o1, o2, c0, c1, c2] at g0 g1 g2
        obtain ⟨n0, e0, _, w0⟩ := DataW.trod_int t0 g0
        obtain ⟨n1, e1, _, w1⟩ := DataW.trod_int t1 g1
        obtain ⟨n2, e2, _, w2⟩ := DataW.trod_int t2 g2
        simp at e0 e1 e2
        subst e0 e1 e2
        refine ⟨⟨n0, n1, n2⟩, fun c u hu => ?_, w0, w1, w2⟩
        have hc : c < 3 := by have := (List.getElem?_eq_some_iff.1 hu).1; simpa using this
        have := hcell c hc
        rw [add_add] at this
        rw [this]; exact hu
    obtain ⟨q, hq⟩ := choose_lt each
    refine ⟨_, (List.range len).map q, rfl, ?_, fun z hz => ?_⟩
    · rw [List.length_map, List.length_range]
      refine rd_of_cells (by rw [iK.all_length]; simp) hl hm (by omega) fun j u hu => ?_
      have hj : j < len * 3 := by have := (List.getElem?_eq_some_iff.1 hu).1; rw [iK.all_length] at this; simpa using this
      obtain ⟨i, c, hi, hc, rfl⟩ : ∃ i c, i < len ∧ c < 3 ∧ j = i * 3 + c := ⟨j / 3, j % 3, by omega, by omega, by omega⟩
      have hg : gE ((List.range len).map q) (i : Int) = q i := by
        unfold gE
        rw [Int.toNat_natCast, List.getD_eq_getElem?_getD, List.getElem?_map, List.getElem?_range hi]; rfl
      have hlt : c < (iK.enc (q i)).length := by rw [iK.len]; exact hc
      have h2 := Ek.all_get iK ((List.range len).map q) (j := (i : Int)) c (u := (iK.enc (q i))[c]'hlt) (by rw [hg]; exact List.getElem?_eq_getElem hlt) (by simp; omega)
      rw [Int.toNat_natCast] at h2
      have h3 := hu.symm.trans h2
      injection h3 with h3
      exact (hq i (by omega)).1 c u (by rw [h3]; exact List.getElem?_eq_getElem hlt)
    · obtain ⟨i, hi, rfl⟩ := List.mem_map.1 hz
      exact (hq i (by have := List.mem_range.1 hi; omega)).2
end Go.Proofs.Ytimclnhklaldfaa
