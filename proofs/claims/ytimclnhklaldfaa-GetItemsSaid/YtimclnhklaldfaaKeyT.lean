/- slices.Sort at whole numbers, off the shelf's contracts. -/
import Derived.Test.YtimclnhklaldfaaRngK
import Derived.Test.YtimclnhklaldfaaShelf
import Derived.Sort.OwnSortedInts
namespace Go.Proofs.Ytimclnhklaldfaa
open Go Go.RowKit Go.Sort
set_option linter.unusedVariables false
theorem zK_all (l : List Int) : zK.all l = l.map (Value.int .i64) := by
  induction l with
  | nil => rfl
  | cons x l ih => rw [Ek.all_cons, ih]; rfl
theorem callable_sort : Callable Try.prog 51 := ⟨_, Try.func51, by kernel_rfl, by kernel_rfl⟩
def sortZ (l : List Int) : List Int := l.mergeSort fun x y => decide (x ≤ y)
theorem sortZ_length (l : List Int) : (sortZ l).length = l.length := List.length_mergeSort l
theorem post1 {w w' : World} {e : Ent} {R : Value → Hp → Hp → Prop} {v : Value} {N H : Hp} (hR : R v [] H) (h : St w w' [] [] H) : PostOf w [] R (.returned v) w' := ⟨v, [], H, hR, rfl, h⟩
theorem st1 {w w' : World} {v v' : Value} {E sz n n' : Nat} {xs xs' : List Value} (h : St w w [] [] [.row v E sz n xs]) (hg : w.grownBy w' v.ownBlock) (ho : w'.ownsRow 0 E sz v' n' xs') (hk : v'.ownBlock = v.ownBlock) : St w w' [] [] [.row v' E sz n' xs'] :=
  h.upd (.h .here) hk ho hg.os hg.tape hg.output hg.size fun k hkl hne => hg.block k hkl hne
theorem c_sortI {v : Value} {n : Nat} {l : List Int} (hn : l.length = n) (hN : n ≤ 1000000) : Fn Try.prog 51 [v] [] [.row v 3 1 n (zK.all l)] (IsW (.tuple #[]) [.row v 3 1 n (zK.all (sortZ l))]) := by
  refine ⟨callable_sort, fun w hw => ?_⟩
  have hrow : w.ownsRow 0 3 1 v n (zK.all l) := hw.has (.row v 3 1 n (zK.all l)) (by simp)
  have hrow' := hrow
  obtain ⟨hl, ⟨rfl, rfl⟩ | ⟨g, cap, cur, rfl, hb, hgb, hnc, hcm, hcs, ht⟩⟩ := hrow'
  · have h0 : l = [] := List.eq_nil_of_length_eq_zero hn
    subst h0
    have hs : sortZ [] = [] := by simp [sortZ]
    rw [hs]
    refine (Try.slices_Sort_int_none none 0 w).mono ?_
    rintro e w' ⟨rfl, rfl⟩
    exact post1 (e := .row .nilFunc 0 0 0 []) (N := []) ⟨rfl, rfl, rfl⟩ hw
  · subst hn
    rw [zK_all, Nat.mul_one] at ht
    have hlt : g < w.heap.size := (Array.getElem?_eq_some_iff.1 hgb).1
    refine (Try.slices_Sort_int g 0 cap l w (holds_of_blockI hgb ht) hlt (by omega)).mono ?_
    rintro e w' ⟨rfl, q, os, rfl⟩
    have h1 := ownsRow_sortedI (w := w) (n := q) (os := os) (ss := l) (ts := sortZ l) (sortZ_length l) (Nat.zero_le g) hgb hnc hcm (by omega)
    rw [← zK_all] at h1
    exact post1 (e := .row .nilFunc 0 0 0 []) (N := []) ⟨rfl, rfl, rfl⟩ (st1 hw (grownBy_sortedI (w := w) (g := g) (n := q) (os := os) (sortZ l).toArray) h1 rfl)
theorem c_sortM {v : Value} {n : Nat} {l : List Int} (hn : l.length = n) (hN : n ≤ 1000000) : Fn Try.prog 51 [v] [] [.row v 3 1 n (zK.all l)] (IsM (.tuple #[]) [.row v 3 1 n (zK.all (sortZ l))]) := by
  obtain ⟨h1, h2⟩ := c_sortI (v := v) hn hN
  refine ⟨h1, fun w hw => (h2 w hw).mono ?_⟩
  rintro e w' ⟨u, N, H, ⟨rfl, rfl, rfl⟩, rfl, hst⟩
  exact ⟨_, _, _, ⟨rfl, rfl, rfl⟩, rfl, hst⟩
theorem c_sortE {v : Value} {n : Nat} {l : List Int} (hn : l.length = n) (hN : n ≤ 1000000) : Fn Try.prog 51 [v] [] [.row v 3 1 n (zK.all l)] (IsWE (.tuple #[]) (fun l' => l' = sortZ l) (fun l' => .row v 3 1 n (zK.all l'))) := by
  obtain ⟨h1, h2⟩ := c_sortI (v := v) hn hN
  refine ⟨h1, fun w hw => (h2 w hw).mono ?_⟩
  rintro e w' ⟨u, N, H, ⟨rfl, rfl, rfl⟩, rfl, hst⟩
  exact ⟨_, _, _, ⟨rfl, rfl, _, rfl, rfl⟩, rfl, hst⟩
end Go.Proofs.Ytimclnhklaldfaa
