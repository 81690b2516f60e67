/- slices.Backward at items: what it gives, one by one. -/
import Derived.Test.YtimclnhklaldfaaRngK
import Derived.Test.YtimclnhklaldfaaEngN
namespace Go.Proofs.Ytimclnhklaldfaa
open Go Go.RowKit Go.Shelf Go.MapKept Go.ChangeMaps
set_option linter.unusedVariables false
attribute [local go_sem] Oper.semAt_some
/-- Items from the last one on, with their places. -/
def bkI (xs : List Itm) (m : Nat) : List (Int × Itm) := (List.range m).map fun (j : Nat) => ((xs.length : Int) - 1 - j, gE xs ((xs.length : Int) - 1 - j))
theorem bkI_step (xs : List Itm) (m : Nat) : bkI xs (m + 1) = bkI xs m ++ [((xs.length : Int) - 1 - m, gE xs ((xs.length : Int) - 1 - m))] := by
  unfold bkI; rw [List.range_succ]; simp
/-- A reader keeps its blocks. -/
def KpB (B bM : Nat) (A C : World) : Prop := A.heap.size ≤ C.heap.size ∧ ∀ k, k < B → k ≠ bM → C.heap[k]? = A.heap[k]?
set_option maxRecDepth 100000 in
set_option maxHeartbeats 1000000 in
theorem back_in (F : Fence) (n : Nat) (h57 : F.fn 57) (hro : F.round = none) (hn : 1 ≤ n) (bb bM : Nat) (v : Value) (x0 : Itm) (xr : List Itm) (w : World) (hbM : bM ≠ bb)
    (hb : w.heap[bb]? = some (.cells #[v] 42)) (hv : RdIs w v 3 (x0 :: xr).length (iK.all (x0 :: xr))) (hvM : ∀ a m c, v = .slice a m c → ∀ q, a = some q → q.block ≠ bM) (hbd : (x0 :: xr).length ≤ 1000000) :
    SeqStopsK F n Try.prog 57 #[.pointer (some ⟨bb, 0, none⟩)] (fun x : Int × Itm => #[.int .i64 x.1, .agg #[.int .i64 x.2.key, .int .i64 x.2.ver, .int .i64 x.2.data]]) (KpB w.heap.size bM) (fun ys => ys = bkI (x0 :: xr) (x0 :: xr).length) (fun _ => True) (x0 :: xr).length w := by
  intro l J Jx W hW hJ _ hY h0
  obtain ⟨A, cap, rfl, hl, hcap, hlen, hA⟩ := hv
  obtain ⟨b, o, rfl, hblt, hcell⟩ := hA (by simp)
  have hne : b ≠ bM := hvM _ _ _ rfl _ rfl
  have hbb : bb < w.heap.size := (Array.getElem?_eq_some_iff.1 hb).1
  generalize hxs : x0 :: xr = xs at *
  have hpos : 0 < xs.length := by rw [← hxs]; simp
  have hbx : ∀ W' : World, KpB w.heap.size bM w W' → W'.cell? ⟨bb, 0, none⟩ = some (.slice (some ⟨b, o, none⟩) xs.length cap) := fun W' hk => by
    exact cell_of_blk ((hk.2 bb hbb (fun e => hbM e.symm)).trans hb) rfl
  have hcl : ∀ W' : World, KpB w.heap.size bM w W' → ∀ j u, (iK.all xs)[j]? = some u → W'.cell? ⟨b, o + j, none⟩ = some u := fun W' hk j u hu => by
    rw [World.cell?_of_block (a := ⟨b, o + j, none⟩) (hk.2 b hblt hne)]; exact hcell j u hu
  have hKW : KpB w.heap.size bM w W := ⟨hW.size, fun k hk _ => hW.block k hk⟩
  have hc0 := hbx W hKW
  refine callsIn_of_wp Try.func57 rfl h57 ?_ hro
  simp only [Try.ntmps57, List.size_toArray, List.length_cons, List.length_nil, Nat.reduceAdd, Nat.reduceSub, Array.replicate_succ, Array.replicate_zero, List.push_toArray, List.append_toArray, List.nil_append, List.cons_append]
  gi_wp2
  gi_loopw [3] (fun vi wr => (vi = .int .i64 (-1) ∧ J (bkI xs xs.length) wr ∧ KpB w.heap.size bM w wr) ∨ (∃ i : Nat, i < xs.length ∧ vi = .int .i64 (i : Int) ∧ J (bkI xs (xs.length - 1 - i)) wr ∧ KpB w.heap.size bM w wr)) (fun vi _ => (intOf vi + 1).toNat)
  case atStart =>
    exact .inr ⟨xs.length - 1, by omega, by congr 1; omega, by rw [Nat.sub_self]; exact h0, hKW⟩
  case round =>
    rcases hrel with ⟨rfl, hJm, hkm⟩ | ⟨i, hi, rfl, hJm, hkm⟩
    · gi_wp2
      go_end0
      exact ⟨⟨_, rfl⟩, .inl ⟨_, rfl, hJm⟩⟩
    · have hc0 := hbx wr hkm
      have hg := Ek.getA (k := iK) (l := xs) (j := (i : Int)) ⟨by omega, by omega⟩
      have hq : ∀ q u, (iK.enc (gE xs (i : Int)))[q]? = some u → wr.cell? ⟨b, o + i * 3 + q, none⟩ = some u := fun q u hu => by
        have := hcl wr hkm _ _ (hg q u hu)
        rw [show o + i * 3 + q = o + ((i : Int).toNat * iK.sz + q) from by simp; omega]; exact this
      have hx0 : wr.cell? ⟨b, o + i * 3, none⟩ = some (.int .i64 (gE xs (i : Int)).key) := hq 0 _ rfl
      have hx1 := hq 1 _ rfl
      have hx2 := hq 2 _ rfl
      have hlb : (bkI xs (xs.length - 1 - i)).length = xs.length - 1 - i := by simp [bkI]
      obtain ⟨fn, tmps, assign, body, hy, hR⟩ := hY _ ((i : Int), gE xs (i : Int)) wr hJm (by rw [hlb]; omega)
      have hst : bkI xs (xs.length - 1 - i) ++ [((i : Int), gE xs (i : Int))] = bkI xs (xs.length - i) := by
        rw [show xs.length - i = (xs.length - 1 - i) + 1 from by omega, bkI_step]
        have e : (xs.length : Int) - 1 - ((xs.length - 1 - i : Nat) : Int) = (i : Int) := by omega
        rw [e]
      rw [hst] at hR
      clear hcl hbx hq hg hcell hA hvM hlen hb hJm hst
      gi_wp2
      refine hR.mono ?_
      rintro e W3 (⟨rfl, hJ4, hk3⟩ | ⟨rfl, hJx3⟩)
      · gi_wp2
        go_roundw
        case rel =>
          have hk4 : KpB w.heap.size bM w W3 := ⟨Nat.le_trans hkm.1 hk3.1, fun k h1 h2 => (hk3.2 k h1 h2).trans (hkm.2 k h1 h2)⟩
          rcases Nat.eq_zero_or_pos i with h0 | h0
          · subst h0
            exact .inl ⟨by simp, by simpa using hJ4, hk4⟩
          · exact .inr ⟨i - 1, by omega, by congr 1; omega, by rw [show xs.length - 1 - (i - 1) = xs.length - i from by omega]; exact hJ4, hk4⟩
        case measure => simp [intOf]
      · gi_wp2
        refine bodyPost_ret (results_none rfl _ _ _) rfl ?_
        exact ⟨⟨_, rfl⟩, .inr ⟨_, trivial, hJx3⟩⟩
set_option maxRecDepth 100000 in
set_option maxHeartbeats 1000000 in
theorem back_in0 (F : Fence) (n : Nat) (h57 : F.fn 57) (hro : F.round = none) (hn : 1 ≤ n) (bb bM : Nat) (v : Value) (w : World)
    (hb : w.heap[bb]? = some (.cells #[v] 42)) (hv : RdIs w v 3 0 []) :
    SeqStopsK F n Try.prog 57 #[.pointer (some ⟨bb, 0, none⟩)] (fun x : Int × Itm => #[.int .i64 x.1, .agg #[.int .i64 x.2.key, .int .i64 x.2.ver, .int .i64 x.2.data]]) (KpB w.heap.size bM) (fun ys => ys = bkI [] 0) (fun _ => True) 0 w := by
  intro l J Jx W hW hJ _ hY h0
  obtain ⟨A, cap, rfl, hl, hcap, hlen, hA⟩ := hv
  have hbb : bb < w.heap.size := (Array.getElem?_eq_some_iff.1 hb).1
  have hc0 : W.cell? ⟨bb, 0, none⟩ = some (.slice A 0 cap) := cell_of_blk ((hW.block bb hbb).trans hb) rfl
  refine callsIn_of_wp Try.func57 rfl h57 ?_ hro
  simp only [Try.ntmps57, List.size_toArray, List.length_cons, List.length_nil, Nat.reduceAdd, Nat.reduceSub, Array.replicate_succ, Array.replicate_zero, List.push_toArray, List.append_toArray, List.nil_append, List.cons_append]
  gi_wp2
  gi_loopw [3] (fun vi wr => vi = .int .i64 (-1) ∧ J (bkI [] 0) wr) (fun vi _ => (intOf vi + 1).toNat)
  case atStart => exact ⟨by rfl, h0⟩
  case round =>
    obtain ⟨rfl, hJm⟩ := hrel
    gi_wp2
    go_end0
    exact ⟨⟨_, rfl⟩, .inl ⟨_, rfl, hJm⟩⟩
theorem back_all (F : Fence) (n : Nat) (h57 : F.fn 57) (hro : F.round = none) (hn : 1 ≤ n) (bb bM : Nat) (v : Value) (xs : List Itm) (w : World) (hbM : bM ≠ bb)
    (hb : w.heap[bb]? = some (.cells #[v] 42)) (hv : RdIs w v 3 xs.length (iK.all xs)) (hvM : ∀ a m c, v = .slice a m c → ∀ q, a = some q → 0 < xs.length → q.block ≠ bM) (hbd : xs.length ≤ 1000000) :
    SeqStopsK F n Try.prog 57 #[.pointer (some ⟨bb, 0, none⟩)] (fun x : Int × Itm => #[.int .i64 x.1, .agg #[.int .i64 x.2.key, .int .i64 x.2.ver, .int .i64 x.2.data]]) (KpB w.heap.size bM) (fun ys => ys = bkI xs xs.length) (fun _ => True) xs.length w := by
  cases xs with
  | nil => exact back_in0 F n h57 hro hn bb bM v w hb hv
  | cons x0 xr => exact back_in F n h57 hro hn bb bM v x0 xr w hbM hb hv (fun a m c h q hq => hvM a m c h q hq (by simp)) hbd
end Go.Proofs.Ytimclnhklaldfaa
