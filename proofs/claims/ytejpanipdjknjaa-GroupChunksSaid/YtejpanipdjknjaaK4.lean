/- K4 -/
import Derived.Test.YtejpanipdjknjaaK3
namespace Go.Proofs.Ytejpanipdjknjaa
open Go Go.RowKit
set_option maxRecDepth 10000
set_option linter.unusedVariables false



theorem blk_1 {cur l1 : List Itm} {k : Nat} (h : ∀ d, d < k → Srt cur (20 * d) (20 * d + 20)) (hm : Mg cur l1 (20 * k) (20 * k + 20)) : ∀ d, d < k + 1 → Srt l1 (20 * d) (20 * d + 20) := fun d hd => by
  by_cases e : d = k
  · subst e; exact hm.2.2.2
  · exact (h d (by omega)).out hm.2.2.1 (.inl (by omega))
theorem blk_2 {cur l1 : List Itm} {k n : Nat} (h : ∀ d, d < k → Srt cur (20 * d) (20 * d + 20)) (hk : n < 20 * k + 20) (hm : Mg cur l1 (20 * k) n) : ∀ d, Srt l1 (d * 20) (min (d * 20 + 20) n) := fun d => by
  rcases Nat.lt_trichotomy d k with e | e | e
  · exact ((h d e).out hm.2.2.1 (.inl (by omega))).part (by omega) (by omega)
  · subst e; exact hm.2.2.2.part (by omega) (by omega)
  · intro p q h1 h2 h3; omega
theorem dbl (c bs : Nat) : 2 * c * bs = c * (2 * bs) := by rw [Nat.mul_comm 2 c, Nat.mul_assoc]
theorem blk_a {cu : List Itm} {c bs n : Nat} (h : ∀ d, 2 * c ≤ d → Srt cu (d * bs) (min (d * bs + bs) n)) (hn : c * (2 * bs) + bs ≤ n) : Srt cu (c * (2 * bs)) (c * (2 * bs) + bs) := by
  have := h (2 * c) (Nat.le_refl _)
  rw [dbl] at this
  exact this.part (Nat.le_refl _) (by omega)
theorem blk_b {cu : List Itm} {c bs n : Nat} (h : ∀ d, 2 * c ≤ d → Srt cu (d * bs) (min (d * bs + bs) n)) (hn : c * (2 * bs) + 2 * bs ≤ n) : Srt cu (c * (2 * bs) + bs) (c * (2 * bs) + 2 * bs) := by
  have := h (2 * c + 1) (by omega)
  rw [Nat.succ_mul, dbl] at this
  exact this.part (Nat.le_refl _) (by omega)
theorem blk_z {cu : List Itm} {c bs n : Nat} (h : ∀ d, 2 * c ≤ d → Srt cu (d * bs) (min (d * bs + bs) n)) (hn : n ≤ c * (2 * bs) + 2 * bs) : Srt cu (c * (2 * bs) + bs) n := by
  have := h (2 * c + 1) (by omega)
  rw [Nat.succ_mul, dbl] at this
  exact this.part (Nat.le_refl _) (by omega)
theorem blk_3 {cu l3 : List Itm} {c bs : Nat} (h : ∀ d, d < c → Srt cu (d * (2 * bs)) (d * (2 * bs) + 2 * bs)) (hm : Mg cu l3 (c * (2 * bs)) (c * (2 * bs) + 2 * bs)) : ∀ d, d < c + 1 → Srt l3 (d * (2 * bs)) (d * (2 * bs) + 2 * bs) := fun d hd => by
  by_cases e : d = c
  · subst e; exact hm.2.2.2
  · have h1 : (d + 1) * (2 * bs) ≤ c * (2 * bs) := Nat.mul_le_mul_right _ (by omega)
    rw [Nat.succ_mul] at h1
    exact (h d (by omega)).out hm.2.2.1 (.inl h1)
theorem blk_6 {cu l3 : List Itm} {c bs n : Nat} (h : ∀ d, 2 * c ≤ d → Srt cu (d * bs) (min (d * bs + bs) n)) (hm : Mg cu l3 (c * (2 * bs)) (c * (2 * bs) + 2 * bs)) : ∀ d, 2 * (c + 1) ≤ d → Srt l3 (d * bs) (min (d * bs + bs) n) := fun d hd => by
  have h1 : (2 * (c + 1)) * bs ≤ d * bs := Nat.mul_le_mul_right _ hd
  rw [dbl, Nat.succ_mul] at h1
  exact (h d (by omega)).out hm.2.2.1 (.inr h1)
theorem blk_4 {cu l4 : List Itm} {c bs n : Nat} (h : ∀ d, d < c → Srt cu (d * (2 * bs)) (d * (2 * bs) + 2 * bs)) (hc : c * (2 * bs) ≤ n) (hn : n < c * (2 * bs) + 2 * bs) (hm : Mg cu l4 (c * (2 * bs)) n) : ∀ d, Srt l4 (d * (2 * bs)) (min (d * (2 * bs) + 2 * bs) n) := fun d => by
  rcases Nat.lt_trichotomy d c with e | e | e
  · have h1 : (d + 1) * (2 * bs) ≤ c * (2 * bs) := Nat.mul_le_mul_right _ (by omega)
    rw [Nat.succ_mul] at h1
    exact ((h d e).out hm.2.2.1 (.inl h1)).part (Nat.le_refl _) (by omega)
  · subst e; exact hm.2.2.2.part (Nat.le_refl _) (by omega)
  · have h1 : (c + 1) * (2 * bs) ≤ d * (2 * bs) := Nat.mul_le_mul_right _ (by omega)
    rw [Nat.succ_mul] at h1
    intro p q h2 h3 h4; omega
theorem blk_5 {cu : List Itm} {c bs n : Nat} (h : ∀ d, d < c → Srt cu (d * (2 * bs)) (d * (2 * bs) + 2 * bs)) (h' : ∀ d, 2 * c ≤ d → Srt cu (d * bs) (min (d * bs + bs) n)) (hc : c * (2 * bs) ≤ n) (hn : n < c * (2 * bs) + 2 * bs) (hn' : n ≤ c * (2 * bs) + bs) : ∀ d, Srt cu (d * (2 * bs)) (min (d * (2 * bs) + 2 * bs) n) := by
  refine blk_4 h hc hn (Mg.nil cu ?_)
  have := h' (2 * c) (Nat.le_refl _)
  rw [dbl] at this
  exact this.part (Nat.le_refl _) (by omega)
theorem c_stb {v : Value} {n : Nat} {l : List Itm} {x : Int} (hx : x = n) (hn : l.length = n) (hN : n ≤ 1000000) : Fn Try.prog 57 [v, .int .i64 x, .func (.func 47) #[] #[]] [] [.row v 43 3 n (iK.all (l))] (IsWE (.tuple #[]) (fun l' => l' = sortF l) (fun l' => .row v 43 3 n (iK.all (l')))) := by
  subst hx
  refine Fn.enter Try.func57 (by kernel_rfl) rfl (n := 63) rfl rfl (fun w => ?_)
  refine At.seq ?_
  refine At.plain [(false, 0)] rfl ?_
  refine At.e rfl rfl rfl rfl .all (R.assign .c) ?_
  refine At.nil ?_
  refine At.tN ?_
  refine At.seq ?_
  refine At.plain [(false, 0), (false, 1), (false, 2)] rfl ?_
  refine At.e rfl rfl rfl rfl .all (R.move (.t rfl)) ?_
  refine At.e rfl rfl rfl rfl .all (R.assign .c) ?_
  refine At.e rfl rfl rfl rfl .all (R.assign (.t rfl)) ?_
  refine At.nil ?_
  refine At.tN ?_
  refine At.seq ?_
  refine At.block ?_
  refine At.loop2 (fun (k : Nat) (cur : List Itm) => 20 * k ≤ n ∧ cur.length = n ∧ Cls l cur ∧ ∀ d, d < k → Srt cur (20 * d) (20 * d + 20)) (fun (k : Nat) (cur : List Itm) => n - 20 * k) (fun (k : Nat) (cur : List Itm) => [(0, true, v), (1, true, .int .i64 n), (2, true, .func (.func 47) #[] #[]), (6, true, .int .i64 20), (7, true, .int .i64 ((20 * k : Nat) : Int)), (8, true, .int .i64 ((20 * k + 20 : Nat) : Int))]) (fun (k : Nat) (cur : List Itm) => []) (fun (k : Nat) (cur : List Itm) => [.row v 43 3 n (iK.all (cur))]) (0) (l) ⟨by omega, hn, Cls.refl l, fun d h => by omega⟩ (.cons rfl (.cons rfl (.cons rfl (.cons rfl (.cons rfl (.cons rfl .nil)))))) (by ((repeat (first | exact List.Sublist.refl _ | exact List.nil_sublist _ | apply List.Sublist.cons_cons | apply List.Sublist.cons)))) rfl (fun k cur hi => ?_)
  obtain ⟨hi1, hi2, hi3, hi4⟩ := hi
  refine At.seq ?_
  refine At.seq ?_
  refine At.plain [(false, 0), (false, 1), (false, 2)] rfl ?_
  refine At.e rfl rfl rfl rfl .all (R.move (.t rfl)) ?_
  refine At.e rfl rfl rfl rfl .all (R.move (.t rfl)) ?_
  refine At.e rfl rfl rfl rfl .all (R.leq (.t rfl) (.t rfl)) ?_
  refine At.nil ?_
  refine At.tN ?_
  refine At.condD (.t rfl) (fun c1 => ?_) (fun c1 => ?_)
  · skip
    refine At.skip ?_
    refine At.tN ?_
    refine At.block ?_
    refine At.seq ?_
    refine At.plain [(false, 0), (false, 1), (false, 2), (false, 3), (false, 4)] rfl ?_
    refine At.e rfl rfl rfl rfl .all (R.move (.t rfl)) ?_
    refine At.e rfl rfl rfl rfl .all (R.move (.t rfl)) ?_
    refine At.e rfl rfl rfl rfl .all (R.move (.t rfl)) ?_
    refine At.e rfl rfl rfl rfl .all (R.move (.t rfl)) ?_
    refine At.callHE (fst := []) (cap := []) rfl rfl rfl Ev.f (.cons (.t rfl) (.cons (.t rfl) (.cons (.t rfl) (.cons (.t rfl) .nil)))) rfl .nil (c_ins (a := 20 * k) (b := 20 * k + 20) (l := cur) (by omega) (by omega) (by omega) (by omega) (by omega) hN) rfl (fun _ => by (exact .h U0)) (fun _ => rfl) (fun l1 hl1 => ⟨.all, ?_⟩)
    refine At.nil ?_
    refine At.tN ?_
    refine At.seq ?_
    refine At.plain [(false, 0), (false, 1)] rfl ?_
    refine At.e rfl rfl rfl rfl .all (R.move (.t rfl)) ?_
    refine At.e rfl rfl rfl rfl .all (R.assign (.t rfl)) ?_
    refine At.nil ?_
    refine At.tN ?_
    refine At.plain [(false, 0), (false, 1), (false, 2), (false, 3)] rfl ?_
    refine At.e rfl rfl rfl rfl .all (R.move (.t rfl)) ?_
    refine At.e rfl rfl rfl rfl .all (R.move (.t rfl)) ?_
    refine At.e rfl rfl rfl rfl .all (R.addI (.t rfl) (.t rfl) (fun hg => by omega)) ?_
    refine At.e rfl rfl rfl rfl .all (R.assign (.t rfl)) ?_
    refine At.nil ?_
    refine At.bN ?_
    refine At.tN ?_
    exact At.again2 (k + 1) (l1) ⟨by omega, hl1.1.trans hi2, hi3.trans hl1.2.1, blk_1 hi4 hl1⟩ (by omega) (.cons rfl (.cons rfl (.cons rfl (.cons rfl (.cons (congrArg (fun z => some (true, Value.int .i64 z)) (by omega)) (.cons (congrArg (fun z => some (true, Value.int .i64 z)) (by omega)) .nil)))))) (by ((repeat (first | exact List.Sublist.refl _ | exact List.nil_sublist _ | apply List.Sublist.cons_cons | apply List.Sublist.cons)))) rfl
  · skip
    refine At.exit ?_
    refine At.tE ?_
    refine At.tE ?_
    refine At.bE ?_
    refine At.tN ?_
    refine At.seq ?_
    refine At.plain [(false, 0), (false, 1), (false, 2), (false, 3), (false, 4)] rfl ?_
    refine At.e rfl rfl rfl rfl .all (R.move (.t rfl)) ?_
    refine At.e rfl rfl rfl rfl .all (R.move (.t rfl)) ?_
    refine At.e rfl rfl rfl rfl .all (R.move (.t rfl)) ?_
    refine At.e rfl rfl rfl rfl .all (R.move (.t rfl)) ?_
    refine At.callHE (fst := []) (cap := []) rfl rfl rfl Ev.f (.cons (.t rfl) (.cons (.t rfl) (.cons (.t rfl) (.cons (.t rfl) .nil)))) rfl .nil (c_ins (a := 20 * k) (b := n) (l := cur) (by omega) rfl (by omega) (Nat.le_refl _) (by omega) hN) rfl (fun _ => by (exact .h U0)) (fun _ => rfl) (fun l2 hl2 => ⟨.all, ?_⟩)
    refine At.nil ?_
    refine At.tN ?_
    refine At.block ?_
    refine At.loop2 (fun (bs : Nat) (cur : List Itm) => 20 ≤ bs ∧ bs ≤ 2000000 ∧ cur.length = n ∧ Cls l cur ∧ ∀ d, Srt cur (d * bs) (min (d * bs + bs) n)) (fun (bs : Nat) (cur : List Itm) => n - bs) (fun (bs : Nat) (cur : List Itm) => [(0, true, v), (1, true, .int .i64 n), (2, true, .func (.func 47) #[] #[]), (6, true, .int .i64 bs)]) (fun (bs : Nat) (cur : List Itm) => []) (fun (bs : Nat) (cur : List Itm) => [.row v 43 3 n (iK.all (cur))]) (20) (l2) ⟨Nat.le_refl _, by omega, hl2.1.trans hi2, hi3.trans hl2.2.1, blk_2 hi4 (by omega) hl2⟩ (.cons rfl (.cons rfl (.cons rfl (.cons rfl .nil)))) (by ((repeat (first | exact List.Sublist.refl _ | exact List.nil_sublist _ | apply List.Sublist.cons_cons | apply List.Sublist.cons)))) rfl (fun bs cur hi => ?_)
    obtain ⟨hi1, hi2, hi3, hi4, hi5⟩ := hi
    refine At.seq ?_
    refine At.seq ?_
    refine At.plain [(false, 0), (false, 1), (false, 2)] rfl ?_
    refine At.e rfl rfl rfl rfl .all (R.move (.t rfl)) ?_
    refine At.e rfl rfl rfl rfl .all (R.move (.t rfl)) ?_
    refine At.e rfl rfl rfl rfl .all (R.lss (.t rfl) (.t rfl)) ?_
    refine At.nil ?_
    refine At.tN ?_
    refine At.condD (.t rfl) (fun c2 => ?_) (fun c2 => ?_)
    · skip
      refine At.skip ?_
      refine At.tN ?_
      refine At.block ?_
      refine At.seq ?_
      refine At.plain [(false, 0), (false, 1), (false, 2), (false, 3)] rfl ?_
      refine At.e rfl rfl rfl rfl .all (R.move (.t rfl)) ?_
      refine At.e rfl rfl rfl rfl .all (R.mulI .c (.t rfl) (fun hg => by omega)) ?_
      refine At.e rfl rfl rfl rfl .all (R.assign .c) ?_
      refine At.e rfl rfl rfl rfl .all (R.assign (.t rfl)) ?_
      refine At.nil ?_
      refine At.tN ?_
      refine At.seq ?_
      refine At.block ?_
      refine At.loop2 (fun (c : Nat) (cu : List Itm) => c * (2 * bs) ≤ n ∧ cu.length = n ∧ Cls l cu ∧ (∀ d, d < c → Srt cu (d * (2 * bs)) (d * (2 * bs) + 2 * bs)) ∧ (∀ d, 2 * c ≤ d → Srt cu (d * bs) (min (d * bs + bs) n))) (fun (c : Nat) (cu : List Itm) => n - c * (2 * bs)) (fun (c : Nat) (cu : List Itm) => [(0, true, v), (1, true, .int .i64 n), (2, true, .func (.func 47) #[] #[]), (6, true, .int .i64 bs), (7, true, .int .i64 ((c * (2 * bs) : Nat) : Int)), (8, true, .int .i64 ((c * (2 * bs) + 2 * bs : Nat) : Int))]) (fun (c : Nat) (cu : List Itm) => []) (fun (c : Nat) (cu : List Itm) => [.row v 43 3 n (iK.all (cu))]) (0) (cur) ⟨by omega, hi3, hi4, fun d h => by omega, fun d _ => hi5 d⟩ (.cons rfl (.cons rfl (.cons rfl (.cons rfl (.cons (congrArg (fun z => some (true, Value.int .i64 z)) (by omega)) (.cons (congrArg (fun z => some (true, Value.int .i64 z)) (by omega)) .nil)))))) (by ((repeat (first | exact List.Sublist.refl _ | exact List.nil_sublist _ | apply List.Sublist.cons_cons | apply List.Sublist.cons)))) rfl (fun c cu hi => ?_)
      obtain ⟨hc1, hc2, hc3, hc4, hc5⟩ := hi; have he : (c + 1) * (2 * bs) = c * (2 * bs) + 2 * bs := Nat.succ_mul c (2 * bs)
      refine At.seq ?_
      refine At.seq ?_
      refine At.plain [(false, 0), (false, 1), (false, 2)] rfl ?_
      refine At.e rfl rfl rfl rfl .all (R.move (.t rfl)) ?_
      refine At.e rfl rfl rfl rfl .all (R.move (.t rfl)) ?_
      refine At.e rfl rfl rfl rfl .all (R.leq (.t rfl) (.t rfl)) ?_
      refine At.nil ?_
      refine At.tN ?_
      refine At.condD (.t rfl) (fun c3 => ?_) (fun c3 => ?_)
      · skip
        refine At.skip ?_
        refine At.tN ?_
        refine At.block ?_
        refine At.seq ?_
        refine At.plain [(false, 0), (false, 1), (false, 2), (false, 3), (false, 4), (false, 5), (false, 6), (false, 7)] rfl ?_
        refine At.e rfl rfl rfl rfl .all (R.move (.t rfl)) ?_
        refine At.e rfl rfl rfl rfl .all (R.move (.t rfl)) ?_
        refine At.e rfl rfl rfl rfl .all (R.move (.t rfl)) ?_
        refine At.e rfl rfl rfl rfl .all (R.move (.t rfl)) ?_
        refine At.e rfl rfl rfl rfl .all (R.addI (.t rfl) (.t rfl) (fun hg => by omega)) ?_
        refine At.e rfl rfl rfl rfl .all (R.move (.t rfl)) ?_
        refine At.e rfl rfl rfl rfl .all (R.move (.t rfl)) ?_
        refine At.callHE (fst := []) (cap := []) rfl rfl rfl Ev.f (.cons (.t rfl) (.cons (.t rfl) (.cons (.t rfl) (.cons (.t rfl) (.cons (.t rfl) .nil))))) rfl .nil (c_sym (2 * bs) (a := c * (2 * bs)) (m := c * (2 * bs) + bs) (b := c * (2 * bs) + 2 * bs) (l := cu) (by omega) (by omega) (by omega) (by omega) (by omega) hN (blk_a hc5 (by omega)) (blk_b hc5 (by omega)) (by omega) (by omega) (by omega)) rfl (fun _ => by (exact .h U0)) (fun _ => rfl) (fun l3 hl3 => ⟨.all, ?_⟩)
        refine At.nil ?_
        refine At.tN ?_
        refine At.seq ?_
        refine At.plain [(false, 0), (false, 1)] rfl ?_
        refine At.e rfl rfl rfl rfl .all (R.move (.t rfl)) ?_
        refine At.e rfl rfl rfl rfl .all (R.assign (.t rfl)) ?_
        refine At.nil ?_
        refine At.tN ?_
        refine At.plain [(false, 0), (false, 1), (false, 2), (false, 3), (false, 4)] rfl ?_
        refine At.e rfl rfl rfl rfl .all (R.move (.t rfl)) ?_
        refine At.e rfl rfl rfl rfl .all (R.move (.t rfl)) ?_
        refine At.e rfl rfl rfl rfl .all (R.mulI .c (.t rfl) (fun hg => by omega)) ?_
        refine At.e rfl rfl rfl rfl .all (R.addI (.t rfl) (.t rfl) (fun hg => by omega)) ?_
        refine At.e rfl rfl rfl rfl .all (R.assign (.t rfl)) ?_
        refine At.nil ?_
        refine At.bN ?_
        refine At.tN ?_
        exact At.again2 (c + 1) (l3) ⟨by omega, hl3.1.trans hc2, hc3.trans hl3.2.1, blk_3 hc4 hl3, blk_6 hc5 hl3⟩ (by show n - (c + 1) * (2 * bs) < n - c * (2 * bs); omega) (.cons rfl (.cons rfl (.cons rfl (.cons rfl (.cons (congrArg (fun z => some (true, Value.int .i64 z)) (by omega)) (.cons (congrArg (fun z => some (true, Value.int .i64 z)) (by omega)) .nil)))))) (by ((repeat (first | exact List.Sublist.refl _ | exact List.nil_sublist _ | apply List.Sublist.cons_cons | apply List.Sublist.cons)))) rfl
      · skip
        refine At.exit ?_
        refine At.tE ?_
        refine At.tE ?_
        refine At.bE ?_
        refine At.tN ?_
        refine At.seq ?_
        refine At.seq ?_
        refine At.plain [(false, 0), (false, 1), (false, 2), (false, 3)] rfl ?_
        refine At.e rfl rfl rfl rfl .all (R.move (.t rfl)) ?_
        refine At.e rfl rfl rfl rfl .all (R.move (.t rfl)) ?_
        refine At.e rfl rfl rfl rfl .all (R.addI (.t rfl) (.t rfl) (fun hg => by omega)) ?_
        refine At.e rfl rfl rfl rfl .all (R.assign (.t rfl)) ?_
        refine At.nil ?_
        refine At.tN ?_
        refine At.seq ?_
        refine At.plain [(false, 0), (false, 1), (false, 2)] rfl ?_
        refine At.e rfl rfl rfl rfl .all (R.move (.t rfl)) ?_
        refine At.e rfl rfl rfl rfl .all (R.move (.t rfl)) ?_
        refine At.e rfl rfl rfl rfl .all (R.lss (.t rfl) (.t rfl)) ?_
        refine At.nil ?_
        refine At.tN ?_
        refine At.condD (.t rfl) (fun c4 => ?_) (fun c4 => ?_)
        · skip
          refine At.plain [(false, 0), (false, 1), (false, 2), (false, 3), (false, 4), (false, 5)] rfl ?_
          refine At.e rfl rfl rfl rfl .all (R.move (.t rfl)) ?_
          refine At.e rfl rfl rfl rfl .all (R.move (.t rfl)) ?_
          refine At.e rfl rfl rfl rfl .all (R.move (.t rfl)) ?_
          refine At.e rfl rfl rfl rfl .all (R.move (.t rfl)) ?_
          refine At.e rfl rfl rfl rfl .all (R.move (.t rfl)) ?_
          refine At.callHE (fst := []) (cap := []) rfl rfl rfl Ev.f (.cons (.t rfl) (.cons (.t rfl) (.cons (.t rfl) (.cons (.t rfl) (.cons (.t rfl) .nil))))) rfl .nil (c_sym n (a := c * (2 * bs)) (m := c * (2 * bs) + bs) (b := n) (l := cu) (by omega) (by omega) (by omega) (Nat.le_refl _) (by omega) hN (blk_a hc5 (by omega)) (blk_z hc5 (by omega)) (by omega) (by omega) rfl) rfl (fun _ => by (exact .h U0)) (fun _ => rfl) (fun l4 hl4 => ⟨.all, ?_⟩)
          refine At.nil ?_
          refine At.tN ?_
          refine At.plain [(false, 0), (false, 1), (false, 2)] rfl ?_
          refine At.e rfl rfl rfl rfl .all (R.move (.t rfl)) ?_
          refine At.e rfl rfl rfl rfl .all (R.mulI (.t rfl) .c (fun hg => by omega)) ?_
          refine At.e rfl rfl rfl rfl .all (R.assign (.t rfl)) ?_
          refine At.nil ?_
          refine At.bN ?_
          refine At.tN ?_
          exact At.again2 (2 * bs) (l4) ⟨by omega, by omega, hl4.1.trans hc2, hc3.trans hl4.2.1, blk_4 hc4 hc1 (by omega) hl4⟩ (by omega) (.cons rfl (.cons rfl (.cons rfl (.cons (congrArg (fun z => some (true, Value.int .i64 z)) (by omega)) .nil)))) (by ((repeat (first | exact List.Sublist.refl _ | exact List.nil_sublist _ | apply List.Sublist.cons_cons | apply List.Sublist.cons)))) rfl
        · skip
          refine At.skip ?_
          refine At.tN ?_
          refine At.plain [(false, 0), (false, 1), (false, 2)] rfl ?_
          refine At.e rfl rfl rfl rfl .all (R.move (.t rfl)) ?_
          refine At.e rfl rfl rfl rfl .all (R.mulI (.t rfl) .c (fun hg => by omega)) ?_
          refine At.e rfl rfl rfl rfl .all (R.assign (.t rfl)) ?_
          refine At.nil ?_
          refine At.bN ?_
          refine At.tN ?_
          exact At.again2 (2 * bs) (cu) ⟨by omega, by omega, hc2, hc3, blk_5 hc4 hc5 hc1 (by omega) (by omega)⟩ (by omega) (.cons rfl (.cons rfl (.cons rfl (.cons (congrArg (fun z => some (true, Value.int .i64 z)) (by omega)) .nil)))) (by ((repeat (first | exact List.Sublist.refl _ | exact List.nil_sublist _ | apply List.Sublist.cons_cons | apply List.Sublist.cons)))) rfl
    · skip
      refine At.exit ?_
      refine At.tE ?_
      refine At.tE ?_
      refine At.bE ?_
      exact At.final0 rfl (List.nil_sublist _) (⟨rfl, rfl, cur, sortF_of hi4 (by rw [hi3]; exact (hi5 0).part (by omega) (by omega)), rfl⟩) _ (.inr rfl)

theorem c_ssf {v : Value} {n : Nat} {l : List Itm} (hn : l.length = n) (hN : n ≤ 1000000) : Fn Try.prog 46 [v, .func (.func 47) #[] #[]] [] [.row v 43 3 n (iK.all (l))] (IsWE (.tuple #[]) (fun l' => l' = sortF l) (fun l' => .row v 43 3 n (iK.all (l')))) := by
  refine Fn.enter Try.func46 (by kernel_rfl) rfl (n := 9) rfl rfl (fun w => ?_)
  refine At.plain [(false, 0), (false, 1), (false, 2), (false, 3), (false, 4)] rfl ?_
  refine At.e rfl rfl rfl rfl .all (R.move (.t rfl)) ?_
  refine At.e rfl rfl rfl rfl .all (R.move (.t rfl)) ?_
  refine At.e rfl rfl rfl rfl .all (R.lenRd Try.underlying22 (.t rfl) (by (exact wS M0))) ?_
  refine At.e rfl rfl rfl rfl .all (R.move (.t rfl)) ?_
  refine At.callHE (fst := []) (cap := []) rfl rfl rfl Ev.f (.cons (.t rfl) (.cons (.t rfl) (.cons (.t rfl) .nil))) rfl .nil (c_stb (l := l) rfl (by omega) (by omega)) rfl (fun _ => by (exact .h U0)) (fun _ => rfl) (fun l1 hl1 => ⟨.all, ?_⟩)
  refine At.nil ?_
  exact At.final0 rfl (List.nil_sublist _) (⟨rfl, rfl, l1, hl1, rfl⟩) _ (.inr rfl)

theorem c_Sort {u : Value} {l : List Itm} (hL : l.length ≤ 1000) : Fn Try.prog 35 [u] [rdE iK u l] [] (IsR iK 43 (sortF l)) := by
  refine Fn.enter Try.func35 (by kernel_rfl) rfl (n := 9) rfl rfl (fun w => ?_)
  refine At.seq ?_
  refine At.plain [(false, 0)] rfl ?_
  refine At.e rfl rfl rfl rfl .all (R.assign .c) ?_
  refine At.nil ?_
  refine At.tN ?_
  refine At.seq ?_
  refine At.plain [(false, 0), (false, 1), (false, 2)] rfl ?_
  refine At.e rfl rfl rfl rfl .all (R.move (.t rfl)) ?_
  refine At.callRF rfl rfl rfl (.cons (.t rfl) .nil) (by (exact .cons (by (exact rS M0)) .nil)) (c_Clone (by omega)) (fun v1 => ⟨.all, ?_⟩)
  refine At.e rfl rfl rfl rfl .all (R.assign (.t rfl)) ?_
  refine At.nil ?_
  refine At.tN ?_
  refine At.seq ?_
  refine At.plain [(false, 0), (false, 1)] rfl ?_
  refine At.e rfl rfl rfl rfl .all (R.move (.t rfl)) ?_
  refine At.callHE (fst := []) (cap := []) rfl rfl rfl Ev.f (.cons (.t rfl) (.cons .f .nil)) rfl .nil (c_ssf (l := l) rfl (by omega)) rfl (fun _ => by (exact .n U0)) (fun _ => rfl) (fun l2 hl2 => ⟨.all, ?_⟩)
  refine At.nil ?_
  refine At.tN ?_
  refine At.seq ?_
  refine At.plain [(false, 0), (false, 1)] rfl ?_
  refine At.e rfl rfl rfl rfl .all (R.move (.t rfl)) ?_
  refine At.e rfl rfl rfl rfl .all (R.assign (.t rfl)) ?_
  refine At.nil ?_
  refine At.tN ?_
  refine At.ret ?_
  exact At.final (N' := [.row v1 43 3 l.length (iK.all l2)]) rfl (.t rfl) (by ((repeat (first | exact List.Sublist.refl _ | exact List.nil_sublist _ | apply List.Sublist.cons_cons | apply List.Sublist.cons)))) (⟨by rw [hl2]; simp only [rowE, sortF_length], rfl⟩)

end Go.Proofs.Ytejpanipdjknjaa
