/- K3 -/
import Derived.Test.YtejpanipdjknjaaSrtP
namespace Go.Proofs.Ytejpanipdjknjaa
open Go Go.RowKit
set_option maxRecDepth 10000
set_option linter.unusedVariables false



theorem gE_half (l : List Itm) (i j : Nat) : gE l (((i : Int) + (j : Int)) / 2) = gN l ((i + j) / 2) := by rw [gE_toNat]; exact congrArg (gN l) (by omega)
theorem gE_far {l : List Itm} {a b m s r : Nat} (h : (s + r) / 2 + 1 ≤ (a + b) / 2 + m) : gE l (((a : Int) + (b : Int)) / 2 + (m : Int) - 1 - ((s : Int) + (r : Int)) / 2) = gN l ((a + b) / 2 + m - 1 - (s + r) / 2) := by rw [gE_toNat]; exact congrArg (gN l) (by omega)
theorem UpI.mg {l cur : List Itm} {a i k b : Nat} (h : UpI l cur a i k) (hk : ¬ (k : Int) < (i : Int) - 1) (hib : i ≤ b) (hlt : ∀ q, a < q → q < i → ltI (gN l q) (gN l a)) (hge : ∀ q, i ≤ q → q < b → leI (gN l a) (gN l q)) (hs : Srt l (a + 1) b) : Mg l cur a b := by
  have h1 := h.1; have h2 := h.2.1
  obtain rfl : k = i - 1 := by omega
  exact ⟨h.2.2.1, h.2.2.2.1, h.2.2.2.2.1.wide (Nat.le_refl _) hib, h.stop (by omega) hib hlt hge hs⟩
theorem DnI.mg {l cur : List Itm} {a i k m b : Nat} (h : DnI l cur m i k) (hk : ¬ (i : Int) < (k : Int)) (hb : b = m + 1) (hai : a ≤ i) (hlt : ∀ q, i ≤ q → q < m → ltI (gN l m) (gN l q)) (hge : ∀ q, a ≤ q → q < i → leI (gN l q) (gN l m)) (hs : Srt l a m) : Mg l cur a b := by
  have h1 := h.1; have h2 := h.2.1
  obtain rfl : k = i := by omega
  subst hb
  exact ⟨h.2.2.1, h.2.2.2.1, h.2.2.2.2.1.wide hai (Nat.le_refl _), h.stop h2 hai hlt hge hs⟩
theorem ins_yes {cu : List Itm} {a j : Nat} (h : (decide ((a : Int) < (j : Int)) && decide (cmpI (gE cu (j : Int)) (gE cu ((j : Int) - 1)) < 0)) = true) : a < j ∧ ltI (gN cu j) (gN cu (j - 1)) := by
  simp only [Bool.and_eq_true, decide_eq_true_eq] at h
  obtain ⟨h1, h2⟩ := h
  rw [gE_toNat cu ((j : Int) - 1), pred_toNat, gE_nat] at h2
  exact ⟨by omega, cmpI_lt.1 h2⟩
theorem ins_no {cu : List Itm} {a j : Nat} (h : (decide ((a : Int) < (j : Int)) && decide (cmpI (gE cu (j : Int)) (gE cu ((j : Int) - 1)) < 0)) = false) : a < j → leI (gN cu (j - 1)) (gN cu j) := fun hj => by
  simp only [Bool.and_eq_false_iff, decide_eq_false_iff_not] at h
  rcases h with h | h
  · omega
  · rw [gE_toNat cu ((j : Int) - 1), pred_toNat, gE_nat] at h
    exact not_cmpI_lt.1 h
theorem c_ins {v : Value} {n a b : Nat} {l : List Itm} {x y : Int} (hx : x = a) (hy : y = b) (hab : a ≤ b) (hb : b ≤ n) (hn : l.length = n) (hN : n ≤ 1000000) : Fn Try.prog 64 [v, .int .i64 x, .int .i64 y, .func (.func 47) #[] #[]] [] [.row v 43 3 n (iK.all (l))] (IsWE (.tuple #[]) (fun l' => Mg l l' a b) (fun l' => .row v 43 3 n (iK.all (l')))) := by
  subst hx hy
  refine Fn.enter Try.func64 (by kernel_rfl) rfl (n := 53) rfl rfl (fun w => ?_)
  refine At.seq ?_
  refine At.plain [(false, 0), (false, 1), (false, 2)] rfl ?_
  refine At.e rfl rfl rfl rfl .all (R.move (.t rfl)) ?_
  refine At.e rfl rfl rfl rfl .all (R.addI (.t rfl) .c (fun hg => by omega)) ?_
  refine At.e rfl rfl rfl rfl .all (R.assign (.t rfl)) ?_
  refine At.nil ?_
  refine At.tN ?_
  refine At.block ?_
  refine At.loop2 (fun (i : Nat) (cur : List Itm) => a + 1 ≤ i ∧ (i ≤ b ∨ i = a + 1) ∧ cur.length = l.length ∧ Cls l cur ∧ Out l cur a b ∧ Srt cur a i) (fun (i : Nat) (cur : List Itm) => b - i) (fun (i : Nat) (cur : List Itm) => [(0, true, v), (1, true, .int .i64 a), (2, true, .int .i64 b), (3, true, .func (.func 47) #[] #[]), (8, true, .int .i64 i)]) (fun (i : Nat) (cur : List Itm) => []) (fun (i : Nat) (cur : List Itm) => [.row v 43 3 n (iK.all (cur))]) (a + 1) (l) ⟨Nat.le_refl _, .inr rfl, rfl, Cls.refl l, Out.refl l a b, fun p q h1 h2 h3 => by omega⟩ (.cons rfl (.cons rfl (.cons rfl (.cons rfl (.cons rfl .nil))))) (by ((repeat (first | exact List.Sublist.refl _ | exact List.nil_sublist _ | apply List.Sublist.cons_cons | apply List.Sublist.cons)))) rfl (fun i cur hi => ?_)
  obtain ⟨hi1, hi2, hi3, hi4, hi5, hi6⟩ := hi
  refine At.seq ?_
  refine At.seq ?_
  refine At.plain [(false, 0), (false, 1), (false, 2)] rfl ?_
  refine At.e rfl rfl rfl rfl .all (R.move (.t rfl)) ?_
  refine At.e rfl rfl rfl rfl .all (R.move (.t rfl)) ?_
  refine At.e rfl rfl rfl rfl .all (R.lss (.t rfl) (.t rfl)) ?_
  refine At.nil ?_
  refine At.tN ?_
  refine At.condD (.t rfl) (fun c1 => ?_) (fun c1 => ?_)
  · skip
    refine At.skip ?_
    refine At.tN ?_
    refine At.seq ?_
    refine At.block ?_
    refine At.seq ?_
    refine At.plain [(false, 0), (false, 1)] rfl ?_
    refine At.e rfl rfl rfl rfl .all (R.move (.t rfl)) ?_
    refine At.e rfl rfl rfl rfl .all (R.assign (.t rfl)) ?_
    refine At.nil ?_
    refine At.tN ?_
    refine At.block ?_
    refine At.loop2 (fun (j : Nat) (cu : List Itm) => InsI l cu a b i j) (fun (j : Nat) (cu : List Itm) => j) (fun (j : Nat) (cu : List Itm) => [(0, true, v), (1, true, .int .i64 a), (2, true, .int .i64 b), (3, true, .func (.func 47) #[] #[]), (8, true, .int .i64 i), (9, true, .int .i64 j)]) (fun (j : Nat) (cu : List Itm) => []) (fun (j : Nat) (cu : List Itm) => [.row v 43 3 n (iK.all (cu))]) (i) (cur) (InsI.start (by omega) hi3 hi4 hi5 hi6) (.cons rfl (.cons rfl (.cons rfl (.cons rfl (.cons rfl (.cons rfl .nil)))))) (by ((repeat (first | exact List.Sublist.refl _ | exact List.nil_sublist _ | apply List.Sublist.cons_cons | apply List.Sublist.cons)))) rfl (fun j cu hi => ?_)
    have hj := hi; have hj1 := hi.1; have hj2 := hi.2.1; have hj3 := hi.2.2.1
    refine At.seq ?_
    refine At.seq ?_
    refine At.drawK [(true, 0), (true, 1), (true, 2), (true, 3), (true, 4), (true, 5), (true, 6), (true, 7), (true, 8), (true, 9), (true, 10), (true, 11), (true, 12), (true, 13), (false, 14), (true, 15), (true, 16)] (by kernel_rfl) (by kernel_rfl) ?_
    refine At.s rfl rfl rfl rfl (Cl.kept fun _ h => h) (R.move (.t rfl)) ?_
    refine At.s rfl rfl rfl rfl (Cl.kept fun _ h => h) (R.move (.t rfl)) ?_
    refine At.s rfl rfl rfl rfl (Cl.kept fun _ h => h) (R.gtr (.t rfl) (.t rfl)) ?_
    refine At.s rfl rfl rfl rfl (Cl.kept fun _ h => h) (R.move (.t rfl)) ?_
    refine At.s rfl rfl rfl rfl (Cl.kept fun _ h => h) (R.move (by exact .t rfl)) ?_
    refine At.s rfl rfl rfl rfl (Cl.kept fun _ h => h) (R.move (by exact .t rfl)) ?_
    refine At.s rfl rfl rfl rfl (Cl.kept fun _ h => h) (R.move (by exact .t rfl)) ?_
    refine At.s rfl rfl rfl rfl (Cl.kept fun _ h => h) (R.indexRd Try.underlying22 sz_43 (by exact .s rfl) (by (exact wK M0)) (by exact .s rfl) (fun hg => (by omega))) ?_
    refine At.s rfl rfl rfl rfl (Cl.kept fun _ h => h) (R.loadRdAgg (us := iK.enc _) Try.underlying43 rfl sz_43 (by exact .s rfl) (by (exact wK M0)) (fun hg => (by omega)) (fun hg => by exact Ek.getA (by omega))) ?_
    refine At.s rfl rfl rfl rfl (Cl.kept fun _ h => h) (R.move (by exact .t rfl)) ?_
    refine At.s rfl rfl rfl rfl (Cl.kept fun _ h => h) (R.move (by exact .t rfl)) ?_
    refine At.s rfl rfl rfl rfl (Cl.kept fun _ h => h) (R.subI (by exact .s rfl) .c (fun hg => by omega)) ?_
    refine At.s rfl rfl rfl rfl (Cl.kept fun _ h => h) (R.indexRd Try.underlying22 sz_43 (by exact .s rfl) (by (exact wK M0)) (by exact .s rfl) (fun hg => (by ((simp [-List.length_eq_zero_iff] at hg; omega))))) ?_
    refine At.s rfl rfl rfl rfl (Cl.kept fun _ h => h) (R.loadRdAgg (us := iK.enc _) Try.underlying43 rfl sz_43 (by exact .s rfl) (by (exact wK M0)) (fun hg => (by omega)) (fun hg => by exact Ek.getA (by ((simp [-List.length_eq_zero_iff] at hg; omega))))) ?_
    refine At.callVF (fst := []) (cap := []) rfl rfl rfl (by exact .s rfl) (.cons (by exact .s rfl) (.cons (by exact .s rfl) .nil)) rfl (by (exact .nil)) (fun hg => c_cmpI) (Cl.kept (by (exact fun _ h => h))) ?_
    refine At.s rfl rfl rfl rfl (Cl.kept (by (exact fun _ h => h))) (R.lss (by exact .s rfl) .c) ?_
    refine At.s rfl rfl rfl rfl (Cl.kept (by (exact fun _ h => h))) (R.pickAnd (.t rfl) rfl (by simp_all)) ?_
    refine At.nil ?_
    refine At.tN ?_
    refine At.cond (.t rfl) (fun c2 => ?_) (fun c2 => ?_)
    · obtain ⟨hs1, hs2⟩ := ins_yes c2
      refine At.skip ?_
      refine At.tN ?_
      refine At.seq ?_
      refine At.block ?_
      refine At.rowForm (v := v) M0 (by omega) (fun g cap hv => ?_)
      subst hv
      refine At.drawL ([]) [(true, 0), (true, 1), (true, 2), (true, 3), (true, 4), (true, 5), (true, 6), (true, 7), (true, 8), (true, 10), (true, 11), (true, 12)] [(true, 9), (true, 13), (true, 14)] [(false, 15), (true, 16), (false, 17)] (fun _ h => nomatch h) (by kernel_rfl) (by kernel_rfl) ?_
      refine At.s rfl rfl rfl rfl Cl.none (R.move (.t rfl)) ?_
      refine At.s rfl rfl rfl rfl Cl.none (R.move (.t rfl)) ?_
      refine At.s rfl rfl rfl rfl Cl.none (R.move (.t rfl)) ?_
      refine At.s rfl rfl rfl rfl Cl.none (R.move (.t rfl)) ?_
      refine At.s rfl rfl rfl rfl Cl.none (R.subI (.t rfl) .c (fun hg => by omega)) ?_
      refine At.s rfl rfl rfl rfl Cl.none (R.move (.t rfl)) ?_
      refine At.s rfl rfl rfl rfl Cl.none (R.move (.t rfl)) ?_
      refine At.s rfl rfl rfl rfl Cl.none (R.subI (.t rfl) .c (fun hg => by omega)) ?_
      refine At.s rfl rfl rfl rfl Cl.none (R.indexSlE Try.underlying22 sz_43 (.t rfl) (.t rfl) (fun hg => by omega)) ?_
      refine At.s rfl rfl rfl rfl Cl.none (R.move (.t rfl)) ?_
      refine At.s rfl rfl rfl rfl Cl.none (R.move (.t rfl)) ?_
      refine At.s rfl rfl rfl rfl Cl.none (R.indexSlE Try.underlying22 sz_43 (.t rfl) (.t rfl) (fun hg => by omega)) ?_
      refine At.stage (Cl.kept fun _ h => h) ?_
      refine At.s rfl rfl rfl rfl (Cl.kept fun _ h => h) (R.loadRdAgg (us := iK.enc _) Try.underlying43 rfl sz_43 (.t rfl) (by (exact wK M0)) (fun hg => (by omega)) (fun hg => by exact Ek.getA (by omega))) ?_
      refine At.s rfl rfl rfl rfl (Cl.kept fun _ h => h) (R.loadRdAgg (us := iK.enc _) Try.underlying43 rfl sz_43 (.t rfl) (by (exact wK M0)) (fun hg => (by omega)) (fun hg => by exact Ek.getA (by omega))) ?_
      refine At.s rfl rfl rfl rfl (Cl.kept fun _ h => h) (R.indexRd Try.underlying22 sz_43 (.t rfl) (by (exact wK M0)) (.t rfl) (fun hg => (by omega))) ?_
      refine At.stage Cl.none ?_
      refine At.stRow (k := iK) rfl rfl sz_43 (.t rfl) (.t rfl) rfl (.h U0) (by omega) (by omega) ⟨Cl.none, ?_⟩
      refine At.s rfl rfl rfl rfl Cl.none (R.indexSlE Try.underlying22 sz_43 (.t rfl) (.t rfl) (fun hg => by omega)) ?_
      refine At.stRow (k := iK) rfl rfl sz_43 (.t rfl) (.t rfl) rfl (.h U0) (by (simp only [List.length_set]; omega)) (by omega) ⟨Cl.none, ?_⟩
      refine At.nil ?_
      refine At.bN ?_
      refine At.tN ?_
      refine At.plain [(false, 0), (false, 1), (false, 2)] rfl ?_
      refine At.e rfl rfl rfl rfl .all (R.move (.t rfl)) ?_
      refine At.e rfl rfl rfl rfl .all (R.subI (.t rfl) .c (fun hg => by omega)) ?_
      refine At.e rfl rfl rfl rfl .all (R.assign (.t rfl)) ?_
      refine At.nil ?_
      refine At.tN ?_
      exact At.again2 (j - 1) (swp cu j) (hj.step (by omega) (by omega) hs1 hs2) (by omega) (.cons rfl (.cons rfl (.cons rfl (.cons rfl (.cons rfl (.cons (congrArg (fun z => some (true, Value.int .i64 z)) (by omega)) .nil)))))) (by ((repeat (first | exact List.Sublist.refl _ | exact List.nil_sublist _ | apply List.Sublist.cons_cons | apply List.Sublist.cons)))) rfl
    · skip
      refine At.exit ?_
      refine At.tE ?_
      refine At.tE ?_
      refine At.bE ?_
      refine At.bN ?_
      refine At.tN ?_
      refine At.plain [(false, 0), (false, 1), (false, 2)] rfl ?_
      refine At.e rfl rfl rfl rfl .all (R.move (.t rfl)) ?_
      refine At.e rfl rfl rfl rfl .all (R.addI (.t rfl) .c (fun hg => by omega)) ?_
      refine At.e rfl rfl rfl rfl .all (R.assign (.t rfl)) ?_
      refine At.nil ?_
      refine At.tN ?_
      exact At.again2 (i + 1) (cu) ⟨by omega, by omega, hj.2.2.1, hj.2.2.2.1, hj.2.2.2.2.1, hj.stop (ins_no c2)⟩ (by omega) (.cons rfl (.cons rfl (.cons rfl (.cons rfl (.cons rfl .nil))))) (by ((repeat (first | exact List.Sublist.refl _ | exact List.nil_sublist _ | apply List.Sublist.cons_cons | apply List.Sublist.cons)))) rfl
  · skip
    refine At.exit ?_
    refine At.tE ?_
    refine At.tE ?_
    refine At.bE ?_
    exact At.final0 rfl (List.nil_sublist _) (⟨rfl, rfl, cur, ⟨hi3, hi4, hi5, hi6.part (Nat.le_refl _) (by omega)⟩, rfl⟩) _ (.inr rfl)

theorem c_swr {v : Value} {n : Nat} {p A M B q l : List Itm} {x y z : Int} (hl : l = p ++ A ++ M ++ B ++ q) (hAB : A.length = B.length) (hx : x = p.length) (hy : y = p.length + A.length + M.length) (hz : z = A.length) (hn : l.length = n) (hN : n ≤ 1000000) : Fn Try.prog 83 [v, .int .i64 x, .int .i64 y, .int .i64 z, .func (.func 47) #[] #[]] [] [.row v 43 3 n (iK.all (l))] (IsWE (.tuple #[]) (fun l' => l' = p ++ B ++ M ++ A ++ q) (fun l' => .row v 43 3 n (iK.all (l')))) := by
  subst hx hy hz; have hlen : p.length + A.length + M.length + B.length + q.length = n := (by rw [← hn, hl]; simp; omega)
  refine Fn.enter Try.func83 (by kernel_rfl) rfl (n := 38) rfl rfl (fun w => ?_)
  refine At.seq ?_
  refine At.plain [(false, 0)] rfl ?_
  refine At.e rfl rfl rfl rfl .all (R.assign .c) ?_
  refine At.nil ?_
  refine At.tN ?_
  refine At.block ?_
  refine At.loop2 (fun (i : Nat) (cur : List Itm) => i ≤ A.length ∧ cur.length = n ∧ cur = p ++ (B.take i ++ A.drop i) ++ M ++ (A.take i ++ B.drop i) ++ q) (fun (i : Nat) (cur : List Itm) => A.length - i) (fun (i : Nat) (cur : List Itm) => [(0, true, v), (1, true, .int .i64 ((p.length : Int))), (2, true, .int .i64 ((p.length : Int) + A.length + M.length)), (3, true, .int .i64 (A.length : Int)), (4, true, .func (.func 47) #[] #[]), (10, true, .int .i64 i)]) (fun (i : Nat) (cur : List Itm) => []) (fun (i : Nat) (cur : List Itm) => [.row v 43 3 n (iK.all (cur))]) (0) (l) ⟨Nat.zero_le _, hn, by rw [hl]; simp⟩ (.cons rfl (.cons rfl (.cons rfl (.cons rfl (.cons rfl (.cons rfl .nil)))))) (by ((repeat (first | exact List.Sublist.refl _ | exact List.nil_sublist _ | apply List.Sublist.cons_cons | apply List.Sublist.cons)))) rfl (fun i cur hi => ?_)
  obtain ⟨hi1, hi2, hi3⟩ := hi
  refine At.seq ?_
  refine At.seq ?_
  refine At.plain [(false, 0), (false, 1), (false, 2)] rfl ?_
  refine At.e rfl rfl rfl rfl .all (R.move (.t rfl)) ?_
  refine At.e rfl rfl rfl rfl .all (R.move (.t rfl)) ?_
  refine At.e rfl rfl rfl rfl .all (R.lss (.t rfl) (.t rfl)) ?_
  refine At.nil ?_
  refine At.tN ?_
  refine At.condD (.t rfl) (fun c1 => ?_) (fun c1 => ?_)
  · skip
    refine At.skip ?_
    refine At.tN ?_
    refine At.seq ?_
    refine At.block ?_
    refine At.rowForm (v := v) M0 (by omega) (fun g cap hv => ?_)
    subst hv
    refine At.drawL ([]) [(true, 0), (true, 1), (true, 2), (true, 3), (true, 4), (true, 5), (true, 6), (true, 7), (true, 8), (true, 9), (true, 10), (true, 11), (true, 12), (true, 14), (true, 15), (true, 16), (true, 17), (true, 18)] [(true, 13), (true, 19), (true, 20)] [(false, 21), (true, 22), (false, 23)] (fun _ h => nomatch h) (by kernel_rfl) (by kernel_rfl) ?_
    refine At.s rfl rfl rfl rfl Cl.none (R.move (.t rfl)) ?_
    refine At.s rfl rfl rfl rfl Cl.none (R.move (.t rfl)) ?_
    refine At.s rfl rfl rfl rfl Cl.none (R.move (.t rfl)) ?_
    refine At.s rfl rfl rfl rfl Cl.none (R.addI (.t rfl) (.t rfl) (fun hg => by omega)) ?_
    refine At.s rfl rfl rfl rfl Cl.none (R.move (.t rfl)) ?_
    refine At.s rfl rfl rfl rfl Cl.none (R.move (.t rfl)) ?_
    refine At.s rfl rfl rfl rfl Cl.none (R.move (.t rfl)) ?_
    refine At.s rfl rfl rfl rfl Cl.none (R.addI (.t rfl) (.t rfl) (fun hg => by omega)) ?_
    refine At.s rfl rfl rfl rfl Cl.none (R.move (.t rfl)) ?_
    refine At.s rfl rfl rfl rfl Cl.none (R.move (.t rfl)) ?_
    refine At.s rfl rfl rfl rfl Cl.none (R.move (.t rfl)) ?_
    refine At.s rfl rfl rfl rfl Cl.none (R.addI (.t rfl) (.t rfl) (fun hg => by omega)) ?_
    refine At.s rfl rfl rfl rfl Cl.none (R.indexSlE Try.underlying22 sz_43 (.t rfl) (.t rfl) (fun hg => by omega)) ?_
    refine At.s rfl rfl rfl rfl Cl.none (R.move (.t rfl)) ?_
    refine At.s rfl rfl rfl rfl Cl.none (R.move (.t rfl)) ?_
    refine At.s rfl rfl rfl rfl Cl.none (R.move (.t rfl)) ?_
    refine At.s rfl rfl rfl rfl Cl.none (R.addI (.t rfl) (.t rfl) (fun hg => by omega)) ?_
    refine At.s rfl rfl rfl rfl Cl.none (R.indexSlE Try.underlying22 sz_43 (.t rfl) (.t rfl) (fun hg => by omega)) ?_
    refine At.stage (Cl.kept fun _ h => h) ?_
    refine At.s rfl rfl rfl rfl (Cl.kept fun _ h => h) (R.loadRdAgg (us := iK.enc _) Try.underlying43 rfl sz_43 (.t rfl) (by (exact wK M0)) (fun hg => (by omega)) (fun hg => by exact Ek.getA (by omega))) ?_
    refine At.s rfl rfl rfl rfl (Cl.kept fun _ h => h) (R.loadRdAgg (us := iK.enc _) Try.underlying43 rfl sz_43 (.t rfl) (by (exact wK M0)) (fun hg => (by omega)) (fun hg => by exact Ek.getA (by omega))) ?_
    refine At.s rfl rfl rfl rfl (Cl.kept fun _ h => h) (R.indexRd Try.underlying22 sz_43 (.t rfl) (by (exact wK M0)) (.t rfl) (fun hg => (by omega))) ?_
    refine At.stage Cl.none ?_
    refine At.stRow (k := iK) rfl rfl sz_43 (.t rfl) (.t rfl) rfl (.h U0) (by omega) (by omega) ⟨Cl.none, ?_⟩
    refine At.s rfl rfl rfl rfl Cl.none (R.indexSlE Try.underlying22 sz_43 (.t rfl) (.t rfl) (fun hg => by omega)) ?_
    refine At.stRow (k := iK) rfl rfl sz_43 (.t rfl) (.t rfl) rfl (.h U0) (by (simp only [List.length_set]; omega)) (by omega) ⟨Cl.none, ?_⟩
    refine At.nil ?_
    refine At.bN ?_
    refine At.tN ?_
    refine At.plain [(false, 0), (false, 1), (false, 2)] rfl ?_
    refine At.e rfl rfl rfl rfl .all (R.move (.t rfl)) ?_
    refine At.e rfl rfl rfl rfl .all (R.addI (.t rfl) .c (fun hg => by omega)) ?_
    refine At.e rfl rfl rfl rfl .all (R.assign (.t rfl)) ?_
    refine At.nil ?_
    refine At.tN ?_
    exact At.again2 (i + 1) ((cur.set ((p.length : Int) + i).toNat (gE cur ((p.length : Int) + A.length + M.length + i))).set ((p.length : Int) + A.length + M.length + i).toNat (gE cur ((p.length : Int) + i))) ⟨by omega, by simp only [List.length_set]; exact hi2, swr_step hAB (by omega) hi3 (by omega) (by omega)⟩ (by omega) (.cons rfl (.cons rfl (.cons rfl (.cons rfl (.cons rfl (.cons rfl .nil)))))) (by ((repeat (first | exact List.Sublist.refl _ | exact List.nil_sublist _ | apply List.Sublist.cons_cons | apply List.Sublist.cons)))) rfl
  · skip
    refine At.exit ?_
    refine At.tE ?_
    refine At.tE ?_
    refine At.bE ?_
    exact At.final0 rfl (List.nil_sublist _) (⟨rfl, rfl, cur, (by rw [hi3]; have hiA : i = A.length := (by omega); subst hiA; rw [List.take_of_length_le (by omega), List.take_of_length_le (by omega), List.drop_eq_nil_of_le (by omega), List.drop_eq_nil_of_le (by omega)]; simp), rfl⟩) _ (.inr rfl)

theorem c_rot {v : Value} {n : Nat} {p A B q l : List Itm} {x y z : Int} (hl : l = p ++ A ++ B ++ q) (hA : 0 < A.length) (hB : 0 < B.length) (hx : x = p.length) (hy : y = p.length + A.length) (hz : z = p.length + A.length + B.length) (hn : l.length = n) (hN : n ≤ 1000000) : Fn Try.prog 77 [v, .int .i64 x, .int .i64 y, .int .i64 z, .func (.func 47) #[] #[]] [] [.row v 43 3 n (iK.all (l))] (IsWE (.tuple #[]) (fun l' => l' = p ++ B ++ A ++ q) (fun l' => .row v 43 3 n (iK.all (l')))) := by
  subst hx hy hz; have hlen : p.length + A.length + B.length + q.length = n := (by rw [← hn, hl]; simp; omega)
  refine Fn.enter Try.func77 (by kernel_rfl) rfl (n := 58) rfl rfl (fun w => ?_)
  refine At.seq ?_
  refine At.plain [(false, 0), (false, 1), (false, 2), (false, 3)] rfl ?_
  refine At.e rfl rfl rfl rfl .all (R.move (.t rfl)) ?_
  refine At.e rfl rfl rfl rfl .all (R.move (.t rfl)) ?_
  refine At.e rfl rfl rfl rfl .all (R.subI (.t rfl) (.t rfl) (fun hg => by omega)) ?_
  refine At.e rfl rfl rfl rfl .all (R.assign (.t rfl)) ?_
  refine At.nil ?_
  refine At.tN ?_
  refine At.seq ?_
  refine At.plain [(false, 0), (false, 1), (false, 2), (false, 3)] rfl ?_
  refine At.e rfl rfl rfl rfl .all (R.move (.t rfl)) ?_
  refine At.e rfl rfl rfl rfl .all (R.move (.t rfl)) ?_
  refine At.e rfl rfl rfl rfl .all (R.subI (.t rfl) (.t rfl) (fun hg => by omega)) ?_
  refine At.e rfl rfl rfl rfl .all (R.assign (.t rfl)) ?_
  refine At.nil ?_
  refine At.tN ?_
  refine At.seq ?_
  refine At.block ?_
  subst hl
  refine At.loop4 (fun (p1 : List Itm) (A1 : List Itm) (B1 : List Itm) (q1 : List Itm) => 0 < A1.length ∧ 0 < B1.length ∧ p1.length + A1.length = p.length + A.length ∧ p1 ++ B1 ++ A1 ++ q1 = p ++ B ++ A ++ q ∧ p1.length + A1.length + B1.length + q1.length = n) (fun (p1 : List Itm) (A1 : List Itm) (B1 : List Itm) (q1 : List Itm) => A1.length + B1.length) (fun (p1 : List Itm) (A1 : List Itm) (B1 : List Itm) (q1 : List Itm) => [(0, true, v), (2, true, .int .i64 ((p.length : Int) + A.length)), (4, true, .func (.func 47) #[] #[]), (10, true, .int .i64 A1.length), (11, true, .int .i64 B1.length)]) (fun (p1 : List Itm) (A1 : List Itm) (B1 : List Itm) (q1 : List Itm) => []) (fun (p1 : List Itm) (A1 : List Itm) (B1 : List Itm) (q1 : List Itm) => [.row v 43 3 n (iK.all (p1 ++ A1 ++ B1 ++ q1))]) (p) (A) (B) (q) ⟨hA, hB, rfl, rfl, hlen⟩ (.cons rfl (.cons rfl (.cons rfl (.cons (congrArg (fun z => some (true, Value.int .i64 z)) (by omega)) (.cons (congrArg (fun z => some (true, Value.int .i64 z)) (by omega)) .nil))))) (by ((repeat (first | exact List.Sublist.refl _ | exact List.nil_sublist _ | apply List.Sublist.cons_cons | apply List.Sublist.cons)))) rfl (fun p1 A1 B1 q1 hi => ?_)
  obtain ⟨hi1, hi2, hi3, hi4, hi5⟩ := hi
  refine At.seq ?_
  refine At.seq ?_
  refine At.plain [(false, 0), (false, 1), (false, 2)] rfl ?_
  refine At.e rfl rfl rfl rfl .all (R.move (.t rfl)) ?_
  refine At.e rfl rfl rfl rfl .all (R.move (.t rfl)) ?_
  refine At.e rfl rfl rfl rfl .all (R.neq (.t rfl) (.t rfl)) ?_
  refine At.nil ?_
  refine At.tN ?_
  refine At.condN (.t rfl) (fun c1 => ?_) (fun c1 => ?_)
  · skip
    refine At.skip ?_
    refine At.tN ?_
    refine At.block ?_
    refine At.seq ?_
    refine At.plain [(false, 0), (false, 1), (false, 2)] rfl ?_
    refine At.e rfl rfl rfl rfl .all (R.move (.t rfl)) ?_
    refine At.e rfl rfl rfl rfl .all (R.move (.t rfl)) ?_
    refine At.e rfl rfl rfl rfl .all (R.gtr (.t rfl) (.t rfl)) ?_
    refine At.nil ?_
    refine At.tN ?_
    refine At.condD (.t rfl) (fun c2 => ?_) (fun c2 => ?_)
    · skip
      refine At.seq ?_
      refine At.plain [(false, 0), (false, 1), (false, 2), (false, 3), (false, 4), (false, 5), (false, 6), (false, 7)] rfl ?_
      refine At.e rfl rfl rfl rfl .all (R.move (.t rfl)) ?_
      refine At.e rfl rfl rfl rfl .all (R.move (.t rfl)) ?_
      refine At.e rfl rfl rfl rfl .all (R.move (.t rfl)) ?_
      refine At.e rfl rfl rfl rfl .all (R.subI (.t rfl) (.t rfl) (fun hg => by omega)) ?_
      refine At.e rfl rfl rfl rfl .all (R.move (.t rfl)) ?_
      refine At.e rfl rfl rfl rfl .all (R.move (.t rfl)) ?_
      refine At.e rfl rfl rfl rfl .all (R.move (.t rfl)) ?_
      refine At.callHE (fst := []) (cap := []) rfl rfl rfl Ev.f (.cons (.t rfl) (.cons (.t rfl) (.cons (.t rfl) (.cons (.t rfl) (.cons (.t rfl) .nil))))) rfl .nil (c_swr (p := p1) (A := A1.take B1.length) (M := A1.drop B1.length) (B := B1) (q := q1) (l := p1 ++ A1 ++ B1 ++ q1) (by rw [List.append_assoc p1 (A1.take _), List.take_append_drop]) (by ((simp; omega))) (by (omega)) (by ((simp; omega))) (by ((simp; omega))) (by ((simp; omega))) hN) rfl (fun _ => by (exact .h U0)) (fun _ => rfl) (fun l1 hl1 => ⟨.all, ?_⟩)
      refine At.nil ?_
      refine At.tN ?_
      refine At.plain [(false, 0), (false, 1), (false, 2), (false, 3)] rfl ?_
      refine At.e rfl rfl rfl rfl .all (R.move (.t rfl)) ?_
      refine At.e rfl rfl rfl rfl .all (R.move (.t rfl)) ?_
      refine At.e rfl rfl rfl rfl .all (R.subI (.t rfl) (.t rfl) (fun hg => by omega)) ?_
      refine At.e rfl rfl rfl rfl .all (R.assign (.t rfl)) ?_
      refine At.nil ?_
      refine At.bN ?_
      subst hl1
      refine At.tN ?_
      exact At.again4 (p1 ++ B1) (A1.drop B1.length) (A1.take B1.length) (q1) ⟨by ((simp; omega)), by ((simp; omega)), by ((simp; omega)), by rw [← hi4]; simp only [List.append_assoc]; rw [← List.append_assoc (A1.take _), List.take_append_drop], by ((simp; omega))⟩ (by ((simp; omega))) (.cons rfl (.cons rfl (.cons rfl (.cons (congrArg (fun z => some (true, Value.int .i64 z)) (by ((simp; omega)))) (.cons (congrArg (fun z => some (true, Value.int .i64 z)) (by ((simp; omega)))) .nil))))) (by ((repeat (first | exact List.Sublist.refl _ | exact List.nil_sublist _ | apply List.Sublist.cons_cons | apply List.Sublist.cons)))) rfl
    · skip
      refine At.seq ?_
      refine At.plain [(false, 0), (false, 1), (false, 2), (false, 3), (false, 4), (false, 5), (false, 6), (false, 7), (false, 8), (false, 9), (false, 10), (false, 11)] rfl ?_
      refine At.e rfl rfl rfl rfl .all (R.move (.t rfl)) ?_
      refine At.e rfl rfl rfl rfl .all (R.move (.t rfl)) ?_
      refine At.e rfl rfl rfl rfl .all (R.move (.t rfl)) ?_
      refine At.e rfl rfl rfl rfl .all (R.subI (.t rfl) (.t rfl) (fun hg => by omega)) ?_
      refine At.e rfl rfl rfl rfl .all (R.move (.t rfl)) ?_
      refine At.e rfl rfl rfl rfl .all (R.move (.t rfl)) ?_
      refine At.e rfl rfl rfl rfl .all (R.addI (.t rfl) (.t rfl) (fun hg => by omega)) ?_
      refine At.e rfl rfl rfl rfl .all (R.move (.t rfl)) ?_
      refine At.e rfl rfl rfl rfl .all (R.subI (.t rfl) (.t rfl) (fun hg => by omega)) ?_
      refine At.e rfl rfl rfl rfl .all (R.move (.t rfl)) ?_
      refine At.e rfl rfl rfl rfl .all (R.move (.t rfl)) ?_
      refine At.callHE (fst := []) (cap := []) rfl rfl rfl Ev.f (.cons (.t rfl) (.cons (.t rfl) (.cons (.t rfl) (.cons (.t rfl) (.cons (.t rfl) .nil))))) rfl .nil (c_swr (p := p1) (A := A1) (M := B1.take (B1.length - A1.length)) (B := B1.drop (B1.length - A1.length)) (q := q1) (l := p1 ++ A1 ++ B1 ++ q1) (by rw [List.append_assoc (p1 ++ A1) (B1.take _), List.take_append_drop]) (by ((simp; omega))) (by (omega)) (by ((simp; omega))) (by (omega)) (by ((simp; omega))) hN) rfl (fun _ => by (exact .h U0)) (fun _ => rfl) (fun l2 hl2 => ⟨.all, ?_⟩)
      refine At.nil ?_
      refine At.tN ?_
      refine At.plain [(false, 0), (false, 1), (false, 2), (false, 3)] rfl ?_
      refine At.e rfl rfl rfl rfl .all (R.move (.t rfl)) ?_
      refine At.e rfl rfl rfl rfl .all (R.move (.t rfl)) ?_
      refine At.e rfl rfl rfl rfl .all (R.subI (.t rfl) (.t rfl) (fun hg => by omega)) ?_
      refine At.e rfl rfl rfl rfl .all (R.assign (.t rfl)) ?_
      refine At.nil ?_
      refine At.bN ?_
      subst hl2
      refine At.tN ?_
      exact At.again4 (p1) (B1.drop (B1.length - A1.length)) (B1.take (B1.length - A1.length)) (A1 ++ q1) ⟨by ((simp; omega)), by ((simp; omega)), by ((simp; omega)), by rw [← hi4]; simp only [List.append_assoc]; rw [← List.append_assoc (B1.take _), List.take_append_drop], by ((simp; omega))⟩ (by ((simp; omega))) (.cons rfl (.cons rfl (.cons rfl (.cons (congrArg (fun z => some (true, Value.int .i64 z)) (by ((simp; omega)))) (.cons (congrArg (fun z => some (true, Value.int .i64 z)) (by ((simp; omega)))) .nil))))) (by ((repeat (first | exact List.Sublist.refl _ | exact List.nil_sublist _ | apply List.Sublist.cons_cons | apply List.Sublist.cons)))) (by simp only [List.append_assoc])
  · skip
    refine At.exit ?_
    refine At.tE ?_
    refine At.tE ?_
    refine At.bE ?_
    refine At.tN ?_
    refine At.plain [(false, 0), (false, 1), (false, 2), (false, 3), (false, 4), (false, 5), (false, 6), (false, 7)] rfl ?_
    refine At.e rfl rfl rfl rfl .all (R.move (.t rfl)) ?_
    refine At.e rfl rfl rfl rfl .all (R.move (.t rfl)) ?_
    refine At.e rfl rfl rfl rfl .all (R.move (.t rfl)) ?_
    refine At.e rfl rfl rfl rfl .all (R.subI (.t rfl) (.t rfl) (fun hg => by omega)) ?_
    refine At.e rfl rfl rfl rfl .all (R.move (.t rfl)) ?_
    refine At.e rfl rfl rfl rfl .all (R.move (.t rfl)) ?_
    refine At.e rfl rfl rfl rfl .all (R.move (.t rfl)) ?_
    refine At.callHE (fst := []) (cap := []) rfl rfl rfl Ev.f (.cons (.t rfl) (.cons (.t rfl) (.cons (.t rfl) (.cons (.t rfl) (.cons (.t rfl) .nil))))) rfl .nil (c_swr (p := p1) (A := A1) (M := []) (B := B1) (q := q1) (l := p1 ++ A1 ++ B1 ++ q1) (by rw [List.append_nil]) (by (omega)) (by (omega)) (by ((simp; omega))) (by (omega)) (by ((simp; omega))) hN) rfl (fun _ => by (exact .h U0)) (fun _ => rfl) (fun l3 hl3 => ⟨.all, ?_⟩)
    refine At.nil ?_
    exact At.final0 rfl (List.nil_sublist _) (⟨rfl, rfl, _, (by rw [hl3, ← hi4]; simp), rfl⟩) _ (.inr rfl)

theorem c_sym : ∀ (sz : Nat) {v : Value} {n a m b : Nat} {l : List Itm} {x y z : Int}, b - a ≤ sz → a < m → m < b → b ≤ n → l.length = n → n ≤ 1000000 → Srt l a m → Srt l m b → x = a → y = m → z = b → Fn Try.prog 65 [v, .int .i64 x, .int .i64 y, .int .i64 z, .func (.func 47) #[] #[]] [] [.row v 43 3 n (iK.all (l))] (IsWE (.tuple #[]) (fun l' => Mg l l' a b) (fun l' => .row v 43 3 n (iK.all (l')))) := by
  intro sz; induction sz using Nat.strongRecOn; rename_i sz ih; intro v n a m b l x y z hsz ham hmb hb hn hN hs1 hs2 hx hy hz; subst hx hy hz
  refine Fn.enter Try.func65 (by kernel_rfl) rfl (n := 220) rfl rfl (fun w => ?_)
  refine At.seq ?_
  refine At.seq ?_
  refine At.plain [(false, 0), (false, 1), (false, 2), (false, 3)] rfl ?_
  refine At.e rfl rfl rfl rfl .all (R.move (.t rfl)) ?_
  refine At.e rfl rfl rfl rfl .all (R.move (.t rfl)) ?_
  refine At.e rfl rfl rfl rfl .all (R.subI (.t rfl) (.t rfl) (fun hg => by omega)) ?_
  refine At.e rfl rfl rfl rfl .all (R.eql (.t rfl) .c) ?_
  refine At.nil ?_
  refine At.tN ?_
  refine At.condD (.t rfl) (fun c1 => ?_) (fun c1 => ?_)
  · skip
    refine At.seq ?_
    refine At.plain [(false, 0), (false, 1)] rfl ?_
    refine At.e rfl rfl rfl rfl .all (R.move (.t rfl)) ?_
    refine At.e rfl rfl rfl rfl .all (R.assign (.t rfl)) ?_
    refine At.nil ?_
    refine At.tN ?_
    refine At.seq ?_
    refine At.plain [(false, 0), (false, 1)] rfl ?_
    refine At.e rfl rfl rfl rfl .all (R.move (.t rfl)) ?_
    refine At.e rfl rfl rfl rfl .all (R.assign (.t rfl)) ?_
    refine At.nil ?_
    refine At.tN ?_
    refine At.seq ?_
    refine At.block ?_
    refine At.loop2 (fun (i : Nat) (j : Nat) => m ≤ i ∧ i ≤ j ∧ j ≤ b ∧ (∀ q, m ≤ q → q < i → ltI (gN l q) (gN l a)) ∧ (∀ q, j ≤ q → q < b → leI (gN l a) (gN l q))) (fun (i : Nat) (j : Nat) => j - i) (fun (i : Nat) (j : Nat) => [(0, true, v), (1, true, .int .i64 a), (2, true, .int .i64 m), (3, true, .int .i64 b), (4, true, .func (.func 47) #[] #[]), (10, true, .int .i64 i), (11, true, .int .i64 j)]) (fun (i : Nat) (j : Nat) => []) (fun (i : Nat) (j : Nat) => [.row v 43 3 n (iK.all (l))]) (m) (b) ⟨Nat.le_refl _, by omega, Nat.le_refl _, fun q _ _ => by omega, fun q _ _ => by omega⟩ (.cons rfl (.cons rfl (.cons rfl (.cons rfl (.cons rfl (.cons rfl (.cons rfl .nil))))))) (by ((repeat (first | exact List.Sublist.refl _ | exact List.nil_sublist _ | apply List.Sublist.cons_cons | apply List.Sublist.cons)))) rfl (fun i j hi => ?_)
    obtain ⟨hi1, hi2, hi3, hi4, hi5⟩ := hi
    refine At.seq ?_
    refine At.seq ?_
    refine At.plain [(false, 0), (false, 1), (false, 2)] rfl ?_
    refine At.e rfl rfl rfl rfl .all (R.move (.t rfl)) ?_
    refine At.e rfl rfl rfl rfl .all (R.move (.t rfl)) ?_
    refine At.e rfl rfl rfl rfl .all (R.lss (.t rfl) (.t rfl)) ?_
    refine At.nil ?_
    refine At.tN ?_
    refine At.condD (.t rfl) (fun c2 => ?_) (fun c2 => ?_)
    · skip
      refine At.skip ?_
      refine At.tN ?_
      refine At.block ?_
      refine At.seq ?_
      refine At.plain [(false, 0), (false, 1), (false, 2), (false, 3), (false, 4), (false, 5), (false, 6)] rfl ?_
      refine At.e rfl rfl rfl rfl .all (R.move (.t rfl)) ?_
      refine At.e rfl rfl rfl rfl .all (R.move (.t rfl)) ?_
      refine At.e rfl rfl rfl rfl .all (R.addI (.t rfl) (.t rfl) (fun hg => by omega)) ?_
      refine At.e rfl rfl rfl rfl .all (R.as (R.conv Try.underlying3 Try.underlying68 (.t rfl)) (fun _ => congrArg (Value.int .u64) (IntWalk.u64_in _ (by omega)))) ?_
      refine At.e rfl rfl rfl rfl .all (R.shr1 (.t rfl) rfl) ?_
      refine At.e rfl rfl rfl rfl .all (R.as (R.conv Try.underlying68 Try.underlying3 (.t rfl)) (fun _ => congrArg (Value.int .i64) (IntWalk.i64_in _ (by omega)))) ?_
      refine At.e rfl rfl rfl rfl .all (R.assign (.t rfl)) ?_
      refine At.nil ?_
      refine At.tN ?_
      refine At.seq ?_
      refine At.drawK [(true, 0), (true, 1), (true, 2), (true, 3), (true, 4), (true, 5), (true, 6), (true, 7), (true, 8), (false, 9), (true, 10)] (by kernel_rfl) (by kernel_rfl) ?_
      refine At.s rfl rfl rfl rfl (Cl.kept fun _ h => h) (R.move (.t rfl)) ?_
      refine At.s rfl rfl rfl rfl (Cl.kept fun _ h => h) (R.move (.t rfl)) ?_
      refine At.s rfl rfl rfl rfl (Cl.kept fun _ h => h) (R.move (.t rfl)) ?_
      refine At.s rfl rfl rfl rfl (Cl.kept fun _ h => h) (R.indexRd Try.underlying22 sz_43 (.t rfl) (by (exact wK M0)) (.t rfl) (fun hg => (by omega))) ?_
      refine At.s rfl rfl rfl rfl (Cl.kept fun _ h => h) (R.loadRdAgg (us := iK.enc _) Try.underlying43 rfl sz_43 (.t rfl) (by (exact wK M0)) (fun hg => (by omega)) (fun hg => by exact Ek.getA (by omega))) ?_
      refine At.s rfl rfl rfl rfl (Cl.kept fun _ h => h) (R.move (.t rfl)) ?_
      refine At.s rfl rfl rfl rfl (Cl.kept fun _ h => h) (R.move (.t rfl)) ?_
      refine At.s rfl rfl rfl rfl (Cl.kept fun _ h => h) (R.indexRd Try.underlying22 sz_43 (.t rfl) (by (exact wK M0)) (.t rfl) (fun hg => (by omega))) ?_
      refine At.s rfl rfl rfl rfl (Cl.kept fun _ h => h) (R.loadRdAgg (us := iK.enc _) Try.underlying43 rfl sz_43 (.t rfl) (by (exact wK M0)) (fun hg => (by omega)) (fun hg => by exact Ek.getA (by omega))) ?_
      refine At.callVF (fst := []) (cap := []) rfl rfl rfl (.t rfl) (.cons (.t rfl) (.cons (.t rfl) .nil)) rfl (by (exact .nil)) (fun hg => c_cmpI) (Cl.kept (by (exact fun _ h => h))) ?_
      refine At.s rfl rfl rfl rfl (Cl.kept (by (exact fun _ h => h))) (R.lss (.t rfl) .c) ?_
      refine At.nil ?_
      refine At.tN ?_
      refine At.condD (.t rfl) (fun c3 => ?_) (fun c3 => ?_)
      · have hc3 : ltI (gN l ((i + j) / 2)) (gN l a) := cmpI_lt.1 (by have := c3; rwa [gE_half, gE_nat] at this)
        refine At.plain [(false, 0), (false, 1), (false, 2)] rfl ?_
        refine At.e rfl rfl rfl rfl .all (R.move (.t rfl)) ?_
        refine At.e rfl rfl rfl rfl .all (R.addI (.t rfl) .c (fun hg => by omega)) ?_
        refine At.e rfl rfl rfl rfl .all (R.assign (.t rfl)) ?_
        refine At.nil ?_
        refine At.bN ?_
        refine At.tN ?_
        exact At.again2 ((i + j) / 2 + 1) (j) ⟨by omega, by omega, by omega, fun q h1 h2 => le_lt_trans (hs2.le h1 (by omega) (by omega)) hc3, hi5⟩ (by omega) (.cons rfl (.cons rfl (.cons rfl (.cons rfl (.cons rfl (.cons (congrArg (fun z => some (true, Value.int .i64 z)) (by omega)) (.cons (congrArg (fun z => some (true, Value.int .i64 z)) (by omega)) .nil))))))) (by ((repeat (first | exact List.Sublist.refl _ | exact List.nil_sublist _ | apply List.Sublist.cons_cons | apply List.Sublist.cons)))) rfl
      · have hc3 : leI (gN l a) (gN l ((i + j) / 2)) := not_cmpI_lt.1 (by have := c3; rwa [gE_half, gE_nat] at this)
        refine At.plain [(false, 0), (false, 1)] rfl ?_
        refine At.e rfl rfl rfl rfl .all (R.move (.t rfl)) ?_
        refine At.e rfl rfl rfl rfl .all (R.assign (.t rfl)) ?_
        refine At.nil ?_
        refine At.bN ?_
        refine At.tN ?_
        exact At.again2 (i) ((i + j) / 2) ⟨hi1, by omega, by omega, hi4, fun q h1 h2 => le_trans' hc3 (hs2.le (by omega) h1 h2)⟩ (by omega) (.cons rfl (.cons rfl (.cons rfl (.cons rfl (.cons rfl (.cons (congrArg (fun z => some (true, Value.int .i64 z)) (by omega)) (.cons (congrArg (fun z => some (true, Value.int .i64 z)) (by omega)) .nil))))))) (by ((repeat (first | exact List.Sublist.refl _ | exact List.nil_sublist _ | apply List.Sublist.cons_cons | apply List.Sublist.cons)))) rfl
    · skip
      refine At.exit ?_
      refine At.tE ?_
      refine At.tE ?_
      refine At.bE ?_
      refine At.tN ?_
      refine At.seq ?_
      refine At.seq ?_
      refine At.plain [(false, 0), (false, 1)] rfl ?_
      refine At.e rfl rfl rfl rfl .all (R.move (.t rfl)) ?_
      refine At.e rfl rfl rfl rfl .all (R.assign (.t rfl)) ?_
      refine At.nil ?_
      refine At.tN ?_
      refine At.block ?_
      have hup : ∀ q, a < q → q < i → ltI (gN l q) (gN l a) := fun q h1 h2 => hi4 q (by omega) h2
      refine At.loop2 (fun (k : Nat) (cur : List Itm) => UpI l cur a i k) (fun (k : Nat) (cur : List Itm) => i - k) (fun (k : Nat) (cur : List Itm) => [(0, true, v), (1, true, .int .i64 a), (2, true, .int .i64 m), (3, true, .int .i64 b), (4, true, .func (.func 47) #[] #[]), (10, true, .int .i64 i), (13, true, .int .i64 k)]) (fun (k : Nat) (cur : List Itm) => []) (fun (k : Nat) (cur : List Itm) => [.row v 43 3 n (iK.all (cur))]) (a) (l) (UpI.start (by omega)) (.cons rfl (.cons rfl (.cons rfl (.cons rfl (.cons rfl (.cons rfl (.cons rfl .nil))))))) (by ((repeat (first | exact List.Sublist.refl _ | exact List.nil_sublist _ | apply List.Sublist.cons_cons | apply List.Sublist.cons)))) rfl (fun k cur hi => ?_)
      have hu := hi; have hu1 := hi.1; have hu2 := hi.2.1; have hu3 := hi.2.2.1
      refine At.seq ?_
      refine At.seq ?_
      refine At.plain [(false, 0), (false, 1), (false, 2), (false, 3)] rfl ?_
      refine At.e rfl rfl rfl rfl .all (R.move (.t rfl)) ?_
      refine At.e rfl rfl rfl rfl .all (R.move (.t rfl)) ?_
      refine At.e rfl rfl rfl rfl .all (R.subI (.t rfl) .c (fun hg => by omega)) ?_
      refine At.e rfl rfl rfl rfl .all (R.lss (.t rfl) (.t rfl)) ?_
      refine At.nil ?_
      refine At.tN ?_
      refine At.condD (.t rfl) (fun c4 => ?_) (fun c4 => ?_)
      · skip
        refine At.skip ?_
        refine At.tN ?_
        refine At.seq ?_
        refine At.block ?_
        refine At.rowForm (v := v) M0 (by omega) (fun g cap hv => ?_)
        subst hv
        refine At.drawL ([]) [(true, 0), (true, 1), (true, 2), (true, 3), (true, 4), (true, 5), (true, 6), (true, 7), (true, 8), (true, 10), (true, 11), (true, 12)] [(true, 9), (true, 13), (true, 14)] [(false, 15), (true, 16), (false, 17)] (fun _ h => nomatch h) (by kernel_rfl) (by kernel_rfl) ?_
        refine At.s rfl rfl rfl rfl Cl.none (R.move (.t rfl)) ?_
        refine At.s rfl rfl rfl rfl Cl.none (R.move (.t rfl)) ?_
        refine At.s rfl rfl rfl rfl Cl.none (R.move (.t rfl)) ?_
        refine At.s rfl rfl rfl rfl Cl.none (R.move (.t rfl)) ?_
        refine At.s rfl rfl rfl rfl Cl.none (R.addI (.t rfl) .c (fun hg => by omega)) ?_
        refine At.s rfl rfl rfl rfl Cl.none (R.move (.t rfl)) ?_
        refine At.s rfl rfl rfl rfl Cl.none (R.move (.t rfl)) ?_
        refine At.s rfl rfl rfl rfl Cl.none (R.addI (.t rfl) .c (fun hg => by omega)) ?_
        refine At.s rfl rfl rfl rfl Cl.none (R.indexSlE Try.underlying22 sz_43 (.t rfl) (.t rfl) (fun hg => by omega)) ?_
        refine At.s rfl rfl rfl rfl Cl.none (R.move (.t rfl)) ?_
        refine At.s rfl rfl rfl rfl Cl.none (R.move (.t rfl)) ?_
        refine At.s rfl rfl rfl rfl Cl.none (R.indexSlE Try.underlying22 sz_43 (.t rfl) (.t rfl) (fun hg => by omega)) ?_
        refine At.stage (Cl.kept fun _ h => h) ?_
        refine At.s rfl rfl rfl rfl (Cl.kept fun _ h => h) (R.loadRdAgg (us := iK.enc _) Try.underlying43 rfl sz_43 (.t rfl) (by (exact wK M0)) (fun hg => (by omega)) (fun hg => by exact Ek.getA (by omega))) ?_
        refine At.s rfl rfl rfl rfl (Cl.kept fun _ h => h) (R.loadRdAgg (us := iK.enc _) Try.underlying43 rfl sz_43 (.t rfl) (by (exact wK M0)) (fun hg => (by omega)) (fun hg => by exact Ek.getA (by omega))) ?_
        refine At.s rfl rfl rfl rfl (Cl.kept fun _ h => h) (R.indexRd Try.underlying22 sz_43 (.t rfl) (by (exact wK M0)) (.t rfl) (fun hg => (by omega))) ?_
        refine At.stage Cl.none ?_
        refine At.stRow (k := iK) rfl rfl sz_43 (.t rfl) (.t rfl) rfl (.h U0) (by omega) (by omega) ⟨Cl.none, ?_⟩
        refine At.s rfl rfl rfl rfl Cl.none (R.indexSlE Try.underlying22 sz_43 (.t rfl) (.t rfl) (fun hg => by omega)) ?_
        refine At.stRow (k := iK) rfl rfl sz_43 (.t rfl) (.t rfl) rfl (.h U0) (by (simp only [List.length_set]; omega)) (by omega) ⟨Cl.none, ?_⟩
        refine At.nil ?_
        refine At.bN ?_
        refine At.tN ?_
        refine At.plain [(false, 0), (false, 1), (false, 2)] rfl ?_
        refine At.e rfl rfl rfl rfl .all (R.move (.t rfl)) ?_
        refine At.e rfl rfl rfl rfl .all (R.addI (.t rfl) .c (fun hg => by omega)) ?_
        refine At.e rfl rfl rfl rfl .all (R.assign (.t rfl)) ?_
        refine At.nil ?_
        refine At.tN ?_
        exact At.again2 (k + 1) (swq cur k) (hu.step (by omega) (by omega) hup) (by omega) (.cons rfl (.cons rfl (.cons rfl (.cons rfl (.cons rfl (.cons rfl (.cons rfl .nil))))))) (by ((repeat (first | exact List.Sublist.refl _ | exact List.nil_sublist _ | apply List.Sublist.cons_cons | apply List.Sublist.cons)))) rfl
      · skip
        refine At.exit ?_
        refine At.tE ?_
        refine At.tE ?_
        refine At.bE ?_
        refine At.tN ?_
        refine At.ret ?_
        refine At.tR ?_
        exact At.final0 rfl (List.nil_sublist _) (⟨rfl, rfl, cur, UpI.mg hu c4 (by omega) hup (fun q h1 h2 => hi5 q (by omega) h2) (hs2.part (by omega) (Nat.le_refl _)), rfl⟩) _ (.inl rfl)
  · skip
    refine At.skip ?_
    refine At.tN ?_
    refine At.seq ?_
    refine At.seq ?_
    refine At.plain [(false, 0), (false, 1), (false, 2), (false, 3)] rfl ?_
    refine At.e rfl rfl rfl rfl .all (R.move (.t rfl)) ?_
    refine At.e rfl rfl rfl rfl .all (R.move (.t rfl)) ?_
    refine At.e rfl rfl rfl rfl .all (R.subI (.t rfl) (.t rfl) (fun hg => by omega)) ?_
    refine At.e rfl rfl rfl rfl .all (R.eql (.t rfl) .c) ?_
    refine At.nil ?_
    refine At.tN ?_
    refine At.condD (.t rfl) (fun c5 => ?_) (fun c5 => ?_)
    · skip
      refine At.seq ?_
      refine At.plain [(false, 0), (false, 1)] rfl ?_
      refine At.e rfl rfl rfl rfl .all (R.move (.t rfl)) ?_
      refine At.e rfl rfl rfl rfl .all (R.assign (.t rfl)) ?_
      refine At.nil ?_
      refine At.tN ?_
      refine At.seq ?_
      refine At.plain [(false, 0), (false, 1)] rfl ?_
      refine At.e rfl rfl rfl rfl .all (R.move (.t rfl)) ?_
      refine At.e rfl rfl rfl rfl .all (R.assign (.t rfl)) ?_
      refine At.nil ?_
      refine At.tN ?_
      refine At.seq ?_
      refine At.block ?_
      refine At.loop2 (fun (i : Nat) (j : Nat) => a ≤ i ∧ i ≤ j ∧ j ≤ m ∧ (∀ q, a ≤ q → q < i → leI (gN l q) (gN l m)) ∧ (∀ q, j ≤ q → q < m → ltI (gN l m) (gN l q))) (fun (i : Nat) (j : Nat) => j - i) (fun (i : Nat) (j : Nat) => [(0, true, v), (1, true, .int .i64 a), (2, true, .int .i64 m), (3, true, .int .i64 b), (4, true, .func (.func 47) #[] #[]), (14, true, .int .i64 i), (15, true, .int .i64 j)]) (fun (i : Nat) (j : Nat) => []) (fun (i : Nat) (j : Nat) => [.row v 43 3 n (iK.all (l))]) (a) (m) ⟨Nat.le_refl _, by omega, Nat.le_refl _, fun q _ _ => by omega, fun q _ _ => by omega⟩ (.cons rfl (.cons rfl (.cons rfl (.cons rfl (.cons rfl (.cons rfl (.cons rfl .nil))))))) (by ((repeat (first | exact List.Sublist.refl _ | exact List.nil_sublist _ | apply List.Sublist.cons_cons | apply List.Sublist.cons)))) rfl (fun i j hi => ?_)
      obtain ⟨hi1, hi2, hi3, hi4, hi5⟩ := hi
      refine At.seq ?_
      refine At.seq ?_
      refine At.plain [(false, 0), (false, 1), (false, 2)] rfl ?_
      refine At.e rfl rfl rfl rfl .all (R.move (.t rfl)) ?_
      refine At.e rfl rfl rfl rfl .all (R.move (.t rfl)) ?_
      refine At.e rfl rfl rfl rfl .all (R.lss (.t rfl) (.t rfl)) ?_
      refine At.nil ?_
      refine At.tN ?_
      refine At.condD (.t rfl) (fun c6 => ?_) (fun c6 => ?_)
      · skip
        refine At.skip ?_
        refine At.tN ?_
        refine At.block ?_
        refine At.seq ?_
        refine At.plain [(false, 0), (false, 1), (false, 2), (false, 3), (false, 4), (false, 5), (false, 6)] rfl ?_
        refine At.e rfl rfl rfl rfl .all (R.move (.t rfl)) ?_
        refine At.e rfl rfl rfl rfl .all (R.move (.t rfl)) ?_
        refine At.e rfl rfl rfl rfl .all (R.addI (.t rfl) (.t rfl) (fun hg => by omega)) ?_
        refine At.e rfl rfl rfl rfl .all (R.as (R.conv Try.underlying3 Try.underlying68 (.t rfl)) (fun _ => congrArg (Value.int .u64) (IntWalk.u64_in _ (by omega)))) ?_
        refine At.e rfl rfl rfl rfl .all (R.shr1 (.t rfl) rfl) ?_
        refine At.e rfl rfl rfl rfl .all (R.as (R.conv Try.underlying68 Try.underlying3 (.t rfl)) (fun _ => congrArg (Value.int .i64) (IntWalk.i64_in _ (by omega)))) ?_
        refine At.e rfl rfl rfl rfl .all (R.assign (.t rfl)) ?_
        refine At.nil ?_
        refine At.tN ?_
        refine At.seq ?_
        refine At.drawK [(true, 0), (true, 1), (true, 2), (true, 3), (true, 4), (true, 5), (true, 6), (true, 7), (true, 8), (false, 9), (true, 10), (true, 11)] (by kernel_rfl) (by kernel_rfl) ?_
        refine At.s rfl rfl rfl rfl (Cl.kept fun _ h => h) (R.move (.t rfl)) ?_
        refine At.s rfl rfl rfl rfl (Cl.kept fun _ h => h) (R.move (.t rfl)) ?_
        refine At.s rfl rfl rfl rfl (Cl.kept fun _ h => h) (R.move (.t rfl)) ?_
        refine At.s rfl rfl rfl rfl (Cl.kept fun _ h => h) (R.indexRd Try.underlying22 sz_43 (.t rfl) (by (exact wK M0)) (.t rfl) (fun hg => (by omega))) ?_
        refine At.s rfl rfl rfl rfl (Cl.kept fun _ h => h) (R.loadRdAgg (us := iK.enc _) Try.underlying43 rfl sz_43 (.t rfl) (by (exact wK M0)) (fun hg => (by omega)) (fun hg => by exact Ek.getA (by omega))) ?_
        refine At.s rfl rfl rfl rfl (Cl.kept fun _ h => h) (R.move (.t rfl)) ?_
        refine At.s rfl rfl rfl rfl (Cl.kept fun _ h => h) (R.move (.t rfl)) ?_
        refine At.s rfl rfl rfl rfl (Cl.kept fun _ h => h) (R.indexRd Try.underlying22 sz_43 (.t rfl) (by (exact wK M0)) (.t rfl) (fun hg => (by omega))) ?_
        refine At.s rfl rfl rfl rfl (Cl.kept fun _ h => h) (R.loadRdAgg (us := iK.enc _) Try.underlying43 rfl sz_43 (.t rfl) (by (exact wK M0)) (fun hg => (by omega)) (fun hg => by exact Ek.getA (by omega))) ?_
        refine At.callVF (fst := []) (cap := []) rfl rfl rfl (.t rfl) (.cons (.t rfl) (.cons (.t rfl) .nil)) rfl (by (exact .nil)) (fun hg => c_cmpI) (Cl.kept (by (exact fun _ h => h))) ?_
        refine At.s rfl rfl rfl rfl (Cl.kept (by (exact fun _ h => h))) (R.lss (.t rfl) .c) ?_
        refine At.s rfl rfl rfl rfl (Cl.kept (by (exact fun _ h => h))) (R.not (.t rfl)) ?_
        refine At.nil ?_
        refine At.tN ?_
        refine At.condN (.t rfl) (fun c7 => ?_) (fun c7 => ?_)
        · have hc7 : leI (gN l ((i + j) / 2)) (gN l m) := not_cmpI_lt.1 (by have := c7; rwa [gE_half, gE_nat] at this)
          refine At.plain [(false, 0), (false, 1), (false, 2)] rfl ?_
          refine At.e rfl rfl rfl rfl .all (R.move (.t rfl)) ?_
          refine At.e rfl rfl rfl rfl .all (R.addI (.t rfl) .c (fun hg => by omega)) ?_
          refine At.e rfl rfl rfl rfl .all (R.assign (.t rfl)) ?_
          refine At.nil ?_
          refine At.bN ?_
          refine At.tN ?_
          exact At.again2 ((i + j) / 2 + 1) (j) ⟨by omega, by omega, by omega, fun q h1 h2 => le_trans' (hs1.le h1 (by omega) (by omega)) hc7, hi5⟩ (by omega) (.cons rfl (.cons rfl (.cons rfl (.cons rfl (.cons rfl (.cons (congrArg (fun z => some (true, Value.int .i64 z)) (by omega)) (.cons (congrArg (fun z => some (true, Value.int .i64 z)) (by omega)) .nil))))))) (by ((repeat (first | exact List.Sublist.refl _ | exact List.nil_sublist _ | apply List.Sublist.cons_cons | apply List.Sublist.cons)))) rfl
        · have hc7 : ltI (gN l m) (gN l ((i + j) / 2)) := cmpI_lt.1 (by have := c7; rwa [gE_half, gE_nat] at this)
          refine At.plain [(false, 0), (false, 1)] rfl ?_
          refine At.e rfl rfl rfl rfl .all (R.move (.t rfl)) ?_
          refine At.e rfl rfl rfl rfl .all (R.assign (.t rfl)) ?_
          refine At.nil ?_
          refine At.bN ?_
          refine At.tN ?_
          exact At.again2 (i) ((i + j) / 2) ⟨hi1, by omega, by omega, hi4, fun q h1 h2 => lt_le_trans hc7 (hs1.le (by omega) h1 h2)⟩ (by omega) (.cons rfl (.cons rfl (.cons rfl (.cons rfl (.cons rfl (.cons (congrArg (fun z => some (true, Value.int .i64 z)) (by omega)) (.cons (congrArg (fun z => some (true, Value.int .i64 z)) (by omega)) .nil))))))) (by ((repeat (first | exact List.Sublist.refl _ | exact List.nil_sublist _ | apply List.Sublist.cons_cons | apply List.Sublist.cons)))) rfl
      · skip
        refine At.exit ?_
        refine At.tE ?_
        refine At.tE ?_
        refine At.bE ?_
        refine At.tN ?_
        refine At.seq ?_
        refine At.seq ?_
        refine At.plain [(false, 0), (false, 1)] rfl ?_
        refine At.e rfl rfl rfl rfl .all (R.move (.t rfl)) ?_
        refine At.e rfl rfl rfl rfl .all (R.assign (.t rfl)) ?_
        refine At.nil ?_
        refine At.tN ?_
        refine At.block ?_
        refine At.loop2 (fun (k : Nat) (cur : List Itm) => DnI l cur m i k) (fun (k : Nat) (cur : List Itm) => k) (fun (k : Nat) (cur : List Itm) => [(0, true, v), (1, true, .int .i64 a), (2, true, .int .i64 m), (3, true, .int .i64 b), (4, true, .func (.func 47) #[] #[]), (14, true, .int .i64 i), (17, true, .int .i64 k)]) (fun (k : Nat) (cur : List Itm) => []) (fun (k : Nat) (cur : List Itm) => [.row v 43 3 n (iK.all (cur))]) (m) (l) (DnI.start (by omega)) (.cons rfl (.cons rfl (.cons rfl (.cons rfl (.cons rfl (.cons rfl (.cons rfl .nil))))))) (by ((repeat (first | exact List.Sublist.refl _ | exact List.nil_sublist _ | apply List.Sublist.cons_cons | apply List.Sublist.cons)))) rfl (fun k cur hi => ?_)
        have hu := hi; have hu1 := hi.1; have hu2 := hi.2.1; have hu3 := hi.2.2.1
        refine At.seq ?_
        refine At.seq ?_
        refine At.plain [(false, 0), (false, 1), (false, 2)] rfl ?_
        refine At.e rfl rfl rfl rfl .all (R.move (.t rfl)) ?_
        refine At.e rfl rfl rfl rfl .all (R.move (.t rfl)) ?_
        refine At.e rfl rfl rfl rfl .all (R.gtr (.t rfl) (.t rfl)) ?_
        refine At.nil ?_
        refine At.tN ?_
        refine At.condD (.t rfl) (fun c8 => ?_) (fun c8 => ?_)
        · skip
          refine At.skip ?_
          refine At.tN ?_
          refine At.seq ?_
          refine At.block ?_
          refine At.rowForm (v := v) M0 (by omega) (fun g cap hv => ?_)
          subst hv
          refine At.drawL ([]) [(true, 0), (true, 1), (true, 2), (true, 3), (true, 4), (true, 5), (true, 6), (true, 7), (true, 8), (true, 10), (true, 11), (true, 12)] [(true, 9), (true, 13), (true, 14)] [(false, 15), (true, 16), (false, 17)] (fun _ h => nomatch h) (by kernel_rfl) (by kernel_rfl) ?_
          refine At.s rfl rfl rfl rfl Cl.none (R.move (.t rfl)) ?_
          refine At.s rfl rfl rfl rfl Cl.none (R.move (.t rfl)) ?_
          refine At.s rfl rfl rfl rfl Cl.none (R.move (.t rfl)) ?_
          refine At.s rfl rfl rfl rfl Cl.none (R.move (.t rfl)) ?_
          refine At.s rfl rfl rfl rfl Cl.none (R.subI (.t rfl) .c (fun hg => by omega)) ?_
          refine At.s rfl rfl rfl rfl Cl.none (R.move (.t rfl)) ?_
          refine At.s rfl rfl rfl rfl Cl.none (R.move (.t rfl)) ?_
          refine At.s rfl rfl rfl rfl Cl.none (R.subI (.t rfl) .c (fun hg => by omega)) ?_
          refine At.s rfl rfl rfl rfl Cl.none (R.indexSlE Try.underlying22 sz_43 (.t rfl) (.t rfl) (fun hg => by omega)) ?_
          refine At.s rfl rfl rfl rfl Cl.none (R.move (.t rfl)) ?_
          refine At.s rfl rfl rfl rfl Cl.none (R.move (.t rfl)) ?_
          refine At.s rfl rfl rfl rfl Cl.none (R.indexSlE Try.underlying22 sz_43 (.t rfl) (.t rfl) (fun hg => by omega)) ?_
          refine At.stage (Cl.kept fun _ h => h) ?_
          refine At.s rfl rfl rfl rfl (Cl.kept fun _ h => h) (R.loadRdAgg (us := iK.enc _) Try.underlying43 rfl sz_43 (.t rfl) (by (exact wK M0)) (fun hg => (by omega)) (fun hg => by exact Ek.getA (by omega))) ?_
          refine At.s rfl rfl rfl rfl (Cl.kept fun _ h => h) (R.loadRdAgg (us := iK.enc _) Try.underlying43 rfl sz_43 (.t rfl) (by (exact wK M0)) (fun hg => (by omega)) (fun hg => by exact Ek.getA (by omega))) ?_
          refine At.s rfl rfl rfl rfl (Cl.kept fun _ h => h) (R.indexRd Try.underlying22 sz_43 (.t rfl) (by (exact wK M0)) (.t rfl) (fun hg => (by omega))) ?_
          refine At.stage Cl.none ?_
          refine At.stRow (k := iK) rfl rfl sz_43 (.t rfl) (.t rfl) rfl (.h U0) (by omega) (by omega) ⟨Cl.none, ?_⟩
          refine At.s rfl rfl rfl rfl Cl.none (R.indexSlE Try.underlying22 sz_43 (.t rfl) (.t rfl) (fun hg => by omega)) ?_
          refine At.stRow (k := iK) rfl rfl sz_43 (.t rfl) (.t rfl) rfl (.h U0) (by (simp only [List.length_set]; omega)) (by omega) ⟨Cl.none, ?_⟩
          refine At.nil ?_
          refine At.bN ?_
          refine At.tN ?_
          refine At.plain [(false, 0), (false, 1), (false, 2)] rfl ?_
          refine At.e rfl rfl rfl rfl .all (R.move (.t rfl)) ?_
          refine At.e rfl rfl rfl rfl .all (R.subI (.t rfl) .c (fun hg => by omega)) ?_
          refine At.e rfl rfl rfl rfl .all (R.assign (.t rfl)) ?_
          refine At.nil ?_
          refine At.tN ?_
          exact At.again2 (k - 1) (swp cur k) (hu.step (by omega) (by omega) (fun q h1 h2 => hi5 q (by omega) h2)) (by omega) (.cons rfl (.cons rfl (.cons rfl (.cons rfl (.cons rfl (.cons rfl (.cons (congrArg (fun z => some (true, Value.int .i64 z)) (by omega)) .nil))))))) (by ((repeat (first | exact List.Sublist.refl _ | exact List.nil_sublist _ | apply List.Sublist.cons_cons | apply List.Sublist.cons)))) rfl
        · skip
          refine At.exit ?_
          refine At.tE ?_
          refine At.tE ?_
          refine At.bE ?_
          refine At.tN ?_
          refine At.ret ?_
          refine At.tR ?_
          exact At.final0 rfl (List.nil_sublist _) (⟨rfl, rfl, cur, DnI.mg hu c8 (by omega) hi1 (fun q h1 h2 => hi5 q (by omega) h2) hi4 hs1, rfl⟩) _ (.inl rfl)
    · skip
      refine At.skip ?_
      refine At.tN ?_
      refine At.seq ?_
      refine At.plain [(false, 0), (false, 1), (false, 2), (false, 3), (false, 4), (false, 5), (false, 6)] rfl ?_
      refine At.e rfl rfl rfl rfl .all (R.move (.t rfl)) ?_
      refine At.e rfl rfl rfl rfl .all (R.move (.t rfl)) ?_
      refine At.e rfl rfl rfl rfl .all (R.addI (.t rfl) (.t rfl) (fun hg => by omega)) ?_
      refine At.e rfl rfl rfl rfl .all (R.as (R.conv Try.underlying3 Try.underlying68 (.t rfl)) (fun _ => congrArg (Value.int .u64) (IntWalk.u64_in _ (by omega)))) ?_
      refine At.e rfl rfl rfl rfl .all (R.shr1 (.t rfl) rfl) ?_
      refine At.e rfl rfl rfl rfl .all (R.as (R.conv Try.underlying68 Try.underlying3 (.t rfl)) (fun _ => congrArg (Value.int .i64) (IntWalk.i64_in _ (by omega)))) ?_
      refine At.e rfl rfl rfl rfl .all (R.assign (.t rfl)) ?_
      refine At.nil ?_
      refine At.tN ?_
      refine At.seq ?_
      refine At.plain [(false, 0), (false, 1), (false, 2), (false, 3)] rfl ?_
      refine At.e rfl rfl rfl rfl .all (R.move (.t rfl)) ?_
      refine At.e rfl rfl rfl rfl .all (R.move (.t rfl)) ?_
      refine At.e rfl rfl rfl rfl .all (R.addI (.t rfl) (.t rfl) (fun hg => by omega)) ?_
      refine At.e rfl rfl rfl rfl .all (R.assign (.t rfl)) ?_
      refine At.nil ?_
      refine At.tN ?_
      refine At.seq ?_
      refine At.plain [(false, 0), (false, 1)] rfl ?_
      refine At.e rfl rfl rfl rfl .all (R.assign .c) ?_
      refine At.e rfl rfl rfl rfl .all (R.assign .c) ?_
      refine At.nil ?_
      refine At.tN ?_
      refine At.seq ?_
      refine At.seq ?_
      refine At.plain [(false, 0), (false, 1), (false, 2)] rfl ?_
      refine At.e rfl rfl rfl rfl .all (R.move (.t rfl)) ?_
      refine At.e rfl rfl rfl rfl .all (R.move (.t rfl)) ?_
      refine At.e rfl rfl rfl rfl .all (R.gtr (.t rfl) (.t rfl)) ?_
      refine At.nil ?_
      refine At.tN ?_
      refine At.cut2 (fun (s0 : Nat) (r0 : Nat) => ((a + b) / 2 < m ∧ s0 = (a + b) / 2 + m - b ∧ r0 = (a + b) / 2) ∨ (m ≤ (a + b) / 2 ∧ s0 = a ∧ r0 = m)) (fun (s0 : Nat) (r0 : Nat) => [(0, true, v), (1, true, .int .i64 a), (2, true, .int .i64 m), (3, true, .int .i64 b), (4, true, .func (.func 47) #[] #[]), (18, true, .int .i64 (((a : Int) + b) / 2)), (19, true, .int .i64 (((a : Int) + b) / 2 + m)), (20, true, .int .i64 s0), (21, true, .int .i64 r0)]) (fun (s0 : Nat) (r0 : Nat) => []) (fun (s0 : Nat) (r0 : Nat) => [.row v 43 3 n (iK.all (l))]) ?_ (fun s0 r0 hi => ?_)
      · skip
        refine At.condD (.t rfl) (fun c9 => ?_) (fun c9 => ?_)
        · skip
          refine At.seq ?_
          refine At.plain [(false, 0), (false, 1), (false, 2), (false, 3)] rfl ?_
          refine At.e rfl rfl rfl rfl .all (R.move (.t rfl)) ?_
          refine At.e rfl rfl rfl rfl .all (R.move (.t rfl)) ?_
          refine At.e rfl rfl rfl rfl .all (R.subI (.t rfl) (.t rfl) (fun hg => by omega)) ?_
          refine At.e rfl rfl rfl rfl .all (R.assign (.t rfl)) ?_
          refine At.nil ?_
          refine At.tN ?_
          refine At.plain [(false, 0), (false, 1)] rfl ?_
          refine At.e rfl rfl rfl rfl .all (R.move (.t rfl)) ?_
          refine At.e rfl rfl rfl rfl .all (R.assign (.t rfl)) ?_
          refine At.nil ?_
          refine At.tN ?_
          exact At.mid2 ((a + b) / 2 + m - b) ((a + b) / 2) (by omega) (.cons rfl (.cons rfl (.cons rfl (.cons rfl (.cons rfl (.cons rfl (.cons rfl (.cons (congrArg (fun z => some (true, Value.int .i64 z)) (by omega)) (.cons (congrArg (fun z => some (true, Value.int .i64 z)) (by omega)) .nil))))))))) (by ((repeat (first | exact List.Sublist.refl _ | exact List.nil_sublist _ | apply List.Sublist.cons_cons | apply List.Sublist.cons)))) rfl
        · skip
          refine At.seq ?_
          refine At.plain [(false, 0), (false, 1)] rfl ?_
          refine At.e rfl rfl rfl rfl .all (R.move (.t rfl)) ?_
          refine At.e rfl rfl rfl rfl .all (R.assign (.t rfl)) ?_
          refine At.nil ?_
          refine At.tN ?_
          refine At.plain [(false, 0), (false, 1)] rfl ?_
          refine At.e rfl rfl rfl rfl .all (R.move (.t rfl)) ?_
          refine At.e rfl rfl rfl rfl .all (R.assign (.t rfl)) ?_
          refine At.nil ?_
          refine At.tN ?_
          exact At.mid2 (a) (m) (by omega) (.cons rfl (.cons rfl (.cons rfl (.cons rfl (.cons rfl (.cons rfl (.cons rfl (.cons rfl (.cons rfl .nil))))))))) (by ((repeat (first | exact List.Sublist.refl _ | exact List.nil_sublist _ | apply List.Sublist.cons_cons | apply List.Sublist.cons)))) rfl
      · have hsr := hi
        refine At.seq ?_
        refine At.plain [(false, 0), (false, 1), (false, 2)] rfl ?_
        refine At.e rfl rfl rfl rfl .all (R.move (.t rfl)) ?_
        refine At.e rfl rfl rfl rfl .all (R.subI (.t rfl) .c (fun hg => by omega)) ?_
        refine At.e rfl rfl rfl rfl .all (R.assign (.t rfl)) ?_
        refine At.nil ?_
        refine At.tN ?_
        refine At.seq ?_
        refine At.block ?_
        refine At.loop2 (fun (s : Nat) (r : Nat) => s0 ≤ s ∧ s ≤ r ∧ r ≤ r0 ∧ (∀ c, s0 ≤ c → c < s → leI (gN l c) (gN l ((a + b) / 2 + m - 1 - c))) ∧ (∀ c, r ≤ c → c < r0 → ltI (gN l ((a + b) / 2 + m - 1 - c)) (gN l c))) (fun (s : Nat) (r : Nat) => r - s) (fun (s : Nat) (r : Nat) => [(0, true, v), (1, true, .int .i64 a), (2, true, .int .i64 m), (3, true, .int .i64 b), (4, true, .func (.func 47) #[] #[]), (18, true, .int .i64 (((a : Int) + b) / 2)), (19, true, .int .i64 (((a : Int) + b) / 2 + m)), (20, true, .int .i64 s), (21, true, .int .i64 r), (22, true, .int .i64 (((a : Int) + b) / 2 + m - 1))]) (fun (s : Nat) (r : Nat) => []) (fun (s : Nat) (r : Nat) => [.row v 43 3 n (iK.all (l))]) (s0) (r0) ⟨Nat.le_refl _, by omega, Nat.le_refl _, fun q _ _ => by omega, fun q _ _ => by omega⟩ (.cons rfl (.cons rfl (.cons rfl (.cons rfl (.cons rfl (.cons rfl (.cons rfl (.cons rfl (.cons rfl (.cons rfl .nil)))))))))) (by ((repeat (first | exact List.Sublist.refl _ | exact List.nil_sublist _ | apply List.Sublist.cons_cons | apply List.Sublist.cons)))) rfl (fun s r hi => ?_)
        obtain ⟨hi1, hi2, hi3, hi4, hi5⟩ := hi
        refine At.seq ?_
        refine At.seq ?_
        refine At.plain [(false, 0), (false, 1), (false, 2)] rfl ?_
        refine At.e rfl rfl rfl rfl .all (R.move (.t rfl)) ?_
        refine At.e rfl rfl rfl rfl .all (R.move (.t rfl)) ?_
        refine At.e rfl rfl rfl rfl .all (R.lss (.t rfl) (.t rfl)) ?_
        refine At.nil ?_
        refine At.tN ?_
        refine At.condD (.t rfl) (fun c10 => ?_) (fun c10 => ?_)
        · skip
          refine At.skip ?_
          refine At.tN ?_
          refine At.block ?_
          refine At.seq ?_
          refine At.plain [(false, 0), (false, 1), (false, 2), (false, 3), (false, 4), (false, 5), (false, 6)] rfl ?_
          refine At.e rfl rfl rfl rfl .all (R.move (.t rfl)) ?_
          refine At.e rfl rfl rfl rfl .all (R.move (.t rfl)) ?_
          refine At.e rfl rfl rfl rfl .all (R.addI (.t rfl) (.t rfl) (fun hg => by omega)) ?_
          refine At.e rfl rfl rfl rfl .all (R.as (R.conv Try.underlying3 Try.underlying68 (.t rfl)) (fun _ => congrArg (Value.int .u64) (IntWalk.u64_in _ (by omega)))) ?_
          refine At.e rfl rfl rfl rfl .all (R.shr1 (.t rfl) rfl) ?_
          refine At.e rfl rfl rfl rfl .all (R.as (R.conv Try.underlying68 Try.underlying3 (.t rfl)) (fun _ => congrArg (Value.int .i64) (IntWalk.i64_in _ (by omega)))) ?_
          refine At.e rfl rfl rfl rfl .all (R.assign (.t rfl)) ?_
          refine At.nil ?_
          refine At.tN ?_
          refine At.seq ?_
          refine At.drawK [(true, 0), (true, 1), (true, 2), (true, 3), (true, 4), (true, 5), (true, 6), (true, 7), (true, 8), (true, 9), (true, 10), (false, 11), (true, 12), (true, 13)] (by kernel_rfl) (by kernel_rfl) ?_
          refine At.s rfl rfl rfl rfl (Cl.kept fun _ h => h) (R.move (.t rfl)) ?_
          refine At.s rfl rfl rfl rfl (Cl.kept fun _ h => h) (R.move (.t rfl)) ?_
          refine At.s rfl rfl rfl rfl (Cl.kept fun _ h => h) (R.move (.t rfl)) ?_
          refine At.s rfl rfl rfl rfl (Cl.kept fun _ h => h) (R.move (.t rfl)) ?_
          refine At.s rfl rfl rfl rfl (Cl.kept fun _ h => h) (R.subI (.t rfl) (.t rfl) (fun hg => by omega)) ?_
          refine At.s rfl rfl rfl rfl (Cl.kept fun _ h => h) (R.indexRd Try.underlying22 sz_43 (.t rfl) (by (exact wK M0)) (.t rfl) (fun hg => (by omega))) ?_
          refine At.s rfl rfl rfl rfl (Cl.kept fun _ h => h) (R.loadRdAgg (us := iK.enc _) Try.underlying43 rfl sz_43 (.t rfl) (by (exact wK M0)) (fun hg => (by omega)) (fun hg => by exact Ek.getA (by omega))) ?_
          refine At.s rfl rfl rfl rfl (Cl.kept fun _ h => h) (R.move (.t rfl)) ?_
          refine At.s rfl rfl rfl rfl (Cl.kept fun _ h => h) (R.move (.t rfl)) ?_
          refine At.s rfl rfl rfl rfl (Cl.kept fun _ h => h) (R.indexRd Try.underlying22 sz_43 (.t rfl) (by (exact wK M0)) (.t rfl) (fun hg => (by omega))) ?_
          refine At.s rfl rfl rfl rfl (Cl.kept fun _ h => h) (R.loadRdAgg (us := iK.enc _) Try.underlying43 rfl sz_43 (.t rfl) (by (exact wK M0)) (fun hg => (by omega)) (fun hg => by exact Ek.getA (by omega))) ?_
          refine At.callVF (fst := []) (cap := []) rfl rfl rfl (.t rfl) (.cons (.t rfl) (.cons (.t rfl) .nil)) rfl (by (exact .nil)) (fun hg => c_cmpI) (Cl.kept (by (exact fun _ h => h))) ?_
          refine At.s rfl rfl rfl rfl (Cl.kept (by (exact fun _ h => h))) (R.lss (.t rfl) .c) ?_
          refine At.s rfl rfl rfl rfl (Cl.kept (by (exact fun _ h => h))) (R.not (.t rfl)) ?_
          refine At.nil ?_
          refine At.tN ?_
          refine At.condN (.t rfl) (fun c11 => ?_) (fun c11 => ?_)
          · have hc11 : leI (gN l ((s + r) / 2)) (gN l ((a + b) / 2 + m - 1 - (s + r) / 2)) := not_cmpI_lt.1 (by have := c11; rwa [gE_half, gE_far (by omega)] at this)
            refine At.plain [(false, 0), (false, 1), (false, 2)] rfl ?_
            refine At.e rfl rfl rfl rfl .all (R.move (.t rfl)) ?_
            refine At.e rfl rfl rfl rfl .all (R.addI (.t rfl) .c (fun hg => by omega)) ?_
            refine At.e rfl rfl rfl rfl .all (R.assign (.t rfl)) ?_
            refine At.nil ?_
            refine At.bN ?_
            refine At.tN ?_
            exact At.again2 ((s + r) / 2 + 1) (r) ⟨by omega, by omega, by omega, fun c h1 h2 => le_trans' (hs1.le (by omega) (by omega : c ≤ (s + r) / 2) (by omega)) (le_trans' hc11 (hs2.le (by omega) (by omega) (by omega))), hi5⟩ (by omega) (.cons rfl (.cons rfl (.cons rfl (.cons rfl (.cons rfl (.cons rfl (.cons rfl (.cons (congrArg (fun z => some (true, Value.int .i64 z)) (by omega)) (.cons (congrArg (fun z => some (true, Value.int .i64 z)) (by omega)) (.cons rfl .nil)))))))))) (by ((repeat (first | exact List.Sublist.refl _ | exact List.nil_sublist _ | apply List.Sublist.cons_cons | apply List.Sublist.cons)))) rfl
          · have hc11 : ltI (gN l ((a + b) / 2 + m - 1 - (s + r) / 2)) (gN l ((s + r) / 2)) := cmpI_lt.1 (by have := c11; rwa [gE_half, gE_far (by omega)] at this)
            refine At.plain [(false, 0), (false, 1)] rfl ?_
            refine At.e rfl rfl rfl rfl .all (R.move (.t rfl)) ?_
            refine At.e rfl rfl rfl rfl .all (R.assign (.t rfl)) ?_
            refine At.nil ?_
            refine At.bN ?_
            refine At.tN ?_
            exact At.again2 (s) ((s + r) / 2) ⟨hi1, by omega, by omega, hi4, fun c h1 h2 => le_lt_trans (hs2.le (by omega) (by omega) (by omega)) (lt_le_trans hc11 (hs1.le (by omega) h1 (by omega)))⟩ (by omega) (.cons rfl (.cons rfl (.cons rfl (.cons rfl (.cons rfl (.cons rfl (.cons rfl (.cons (congrArg (fun z => some (true, Value.int .i64 z)) (by omega)) (.cons (congrArg (fun z => some (true, Value.int .i64 z)) (by omega)) (.cons rfl .nil)))))))))) (by ((repeat (first | exact List.Sublist.refl _ | exact List.nil_sublist _ | apply List.Sublist.cons_cons | apply List.Sublist.cons)))) rfl
        · have hcut : Cut l a m b ((a + b) / 2) s ((a + b) / 2 + m - s) := ⟨by omega, fun h1 h2 => (by have := hi5 s (by omega) (by omega); rwa [show (a + b) / 2 + m - 1 - s = (a + b) / 2 + m - s - 1 from by omega] at this), fun h1 h2 => (by have := hi4 (s - 1) (by omega) (by omega); rwa [show (a + b) / 2 + m - 1 - (s - 1) = (a + b) / 2 + m - s from by omega] at this)⟩; obtain ⟨hb1, hb2, hb3, hb4, hb5, hb6⟩ := hcut.bd; obtain ⟨hq1, hq2, hq3, hq4, hq5, hq6, hq7, hq8⟩ := hcut.rot (by omega) hs1 hs2
          refine At.exit ?_
          refine At.tE ?_
          refine At.tE ?_
          refine At.bE ?_
          refine At.tN ?_
          refine At.seq ?_
          refine At.plain [(false, 0), (false, 1), (false, 2), (false, 3)] rfl ?_
          refine At.e rfl rfl rfl rfl .all (R.move (.t rfl)) ?_
          refine At.e rfl rfl rfl rfl .all (R.move (.t rfl)) ?_
          refine At.e rfl rfl rfl rfl .all (R.subI (.t rfl) (.t rfl) (fun hg => by omega)) ?_
          refine At.e rfl rfl rfl rfl .all (R.assign (.t rfl)) ?_
          refine At.nil ?_
          refine At.tN ?_
          refine At.seq ?_
          refine At.seq ?_
          refine At.plain [(false, 0), (false, 1), (false, 2), (false, 3), (false, 4), (false, 5), (false, 6), (false, 7)] rfl ?_
          refine At.e rfl rfl rfl rfl .all (R.move (.t rfl)) ?_
          refine At.e rfl rfl rfl rfl .all (R.move (.t rfl)) ?_
          refine At.e rfl rfl rfl rfl .all (R.lss (.t rfl) (.t rfl)) ?_
          refine At.e rfl rfl rfl rfl .all (R.move (.t rfl)) ?_
          refine At.e rfl rfl rfl rfl .all (R.move (by exact .t rfl)) ?_
          refine At.e rfl rfl rfl rfl .all (R.move (by exact .t rfl)) ?_
          refine At.e rfl rfl rfl rfl .all (R.lss (by exact .s rfl) (by exact .s rfl)) ?_
          refine At.e rfl rfl rfl rfl .all (R.pickAnd (.t rfl) rfl (by simp_all)) ?_
          refine At.nil ?_
          refine At.tN ?_
          refine At.cut1 (fun (cur : List Itm) => cur = rotI l s m ((a + b) / 2 + m - s)) (fun (cur : List Itm) => [(0, true, v), (1, true, .int .i64 a), (2, true, .int .i64 m), (3, true, .int .i64 b), (4, true, .func (.func 47) #[] #[]), (18, true, .int .i64 (((a : Int) + b) / 2)), (20, true, .int .i64 s), (24, true, .int .i64 (((a : Int) + b) / 2 + m - s))]) (fun (cur : List Itm) => []) (fun (cur : List Itm) => [.row v 43 3 n (iK.all (cur))]) ?_ (fun cur hi => ?_)
          · skip
            refine At.cond (.t rfl) (fun c12 => ?_) (fun c12 => ?_)
            · simp only [Bool.and_eq_true, decide_eq_true_eq] at c12
              refine At.plain [(false, 0), (false, 1), (false, 2), (false, 3), (false, 4), (false, 5)] rfl ?_
              refine At.e rfl rfl rfl rfl .all (R.move (.t rfl)) ?_
              refine At.e rfl rfl rfl rfl .all (R.move (.t rfl)) ?_
              refine At.e rfl rfl rfl rfl .all (R.move (.t rfl)) ?_
              refine At.e rfl rfl rfl rfl .all (R.move (.t rfl)) ?_
              refine At.e rfl rfl rfl rfl .all (R.move (.t rfl)) ?_
              refine At.callHE (fst := []) (cap := []) rfl rfl rfl Ev.f (.cons (.t rfl) (.cons (.t rfl) (.cons (.t rfl) (.cons (.t rfl) (.cons (.t rfl) .nil))))) rfl .nil (c_rot (p := l.take s) (A := (l.drop s).take (m - s)) (B := (l.drop m).take ((a + b) / 2 + m - s - m)) (q := l.drop ((a + b) / 2 + m - s)) (l := l) (seg_form hcut.bd.2.1 hcut.bd.2.2.1 (by omega)) (by ((simp; omega))) (by ((simp; omega))) (by ((simp; omega))) (by ((simp; omega))) (by ((simp; omega))) hn hN) rfl (fun _ => by (exact .h U0)) (fun _ => rfl) (fun l1 hl1 => ⟨.all, ?_⟩)
              refine At.nil ?_
              refine At.tN ?_
              exact At.mid1 (l1) hl1 (.cons rfl (.cons rfl (.cons rfl (.cons rfl (.cons rfl (.cons rfl (.cons rfl (.cons rfl .nil)))))))) (by ((repeat (first | exact List.Sublist.refl _ | exact List.nil_sublist _ | apply List.Sublist.cons_cons | apply List.Sublist.cons)))) rfl
            · simp only [Bool.and_eq_false_iff, decide_eq_false_iff_not] at c12
              refine At.skip ?_
              refine At.tN ?_
              exact At.mid1 (l) ((rotI_idle (by omega) (by omega) (by omega) (by omega)).symm) (.cons rfl (.cons rfl (.cons rfl (.cons rfl (.cons rfl (.cons rfl (.cons rfl (.cons rfl .nil)))))))) (by ((repeat (first | exact List.Sublist.refl _ | exact List.nil_sublist _ | apply List.Sublist.cons_cons | apply List.Sublist.cons)))) rfl
          · have hcr := hi
            refine At.seq ?_
            refine At.seq ?_
            refine At.plain [(false, 0), (false, 1), (false, 2), (false, 3), (false, 4), (false, 5), (false, 6), (false, 7)] rfl ?_
            refine At.e rfl rfl rfl rfl .all (R.move (.t rfl)) ?_
            refine At.e rfl rfl rfl rfl .all (R.move (.t rfl)) ?_
            refine At.e rfl rfl rfl rfl .all (R.lss (.t rfl) (.t rfl)) ?_
            refine At.e rfl rfl rfl rfl .all (R.move (.t rfl)) ?_
            refine At.e rfl rfl rfl rfl .all (R.move (by exact .t rfl)) ?_
            refine At.e rfl rfl rfl rfl .all (R.move (by exact .t rfl)) ?_
            refine At.e rfl rfl rfl rfl .all (R.lss (by exact .s rfl) (by exact .s rfl)) ?_
            refine At.e rfl rfl rfl rfl .all (R.pickAnd (.t rfl) rfl (by simp_all)) ?_
            refine At.nil ?_
            refine At.tN ?_
            refine At.cut1 (fun (l1 : List Itm) => Mg cur l1 a ((a + b) / 2)) (fun (l1 : List Itm) => [(0, true, v), (1, true, .int .i64 a), (2, true, .int .i64 m), (3, true, .int .i64 b), (4, true, .func (.func 47) #[] #[]), (18, true, .int .i64 (((a : Int) + b) / 2)), (20, true, .int .i64 s), (24, true, .int .i64 (((a : Int) + b) / 2 + m - s))]) (fun (l1 : List Itm) => []) (fun (l1 : List Itm) => [.row v 43 3 n (iK.all (l1))]) ?_ (fun l1 hi => ?_)
            · skip
              refine At.cond (.t rfl) (fun c13 => ?_) (fun c13 => ?_)
              · simp only [Bool.and_eq_true, decide_eq_true_eq] at c13
                refine At.plain [(false, 0), (false, 1), (false, 2), (false, 3), (false, 4), (false, 5)] rfl ?_
                refine At.e rfl rfl rfl rfl .all (R.move (.t rfl)) ?_
                refine At.e rfl rfl rfl rfl .all (R.move (.t rfl)) ?_
                refine At.e rfl rfl rfl rfl .all (R.move (.t rfl)) ?_
                refine At.e rfl rfl rfl rfl .all (R.move (.t rfl)) ?_
                refine At.e rfl rfl rfl rfl .all (R.move (.t rfl)) ?_
                refine At.callHE (fst := []) (cap := []) rfl rfl rfl Ev.f (.cons (.t rfl) (.cons (.t rfl) (.cons (.t rfl) (.cons (.t rfl) (.cons (.t rfl) .nil))))) rfl .nil (@ih ((a + b) / 2 - a) (by omega) _ n a s ((a + b) / 2) cur _ _ _ (Nat.le_refl _) (by omega) (by omega) (by omega) (by rw [hcr, hq1, hn]) hN (by rw [hcr]; exact hq4) (by rw [hcr]; exact hq5) rfl (by omega) (by omega)) rfl (fun _ => by (exact .h U0)) (fun _ => rfl) (fun l2 hl2 => ⟨.all, ?_⟩)
                refine At.nil ?_
                refine At.tN ?_
                exact At.mid1 (l2) hl2 (.cons rfl (.cons rfl (.cons rfl (.cons rfl (.cons rfl (.cons rfl (.cons rfl (.cons rfl .nil)))))))) (by ((repeat (first | exact List.Sublist.refl _ | exact List.nil_sublist _ | apply List.Sublist.cons_cons | apply List.Sublist.cons)))) rfl
              · simp only [Bool.and_eq_false_iff, decide_eq_false_iff_not] at c13
                refine At.skip ?_
                refine At.tN ?_
                exact At.mid1 (cur) (Mg.nil cur (by rw [hcr]; rcases c13 with h | h; exact hq5.part (by omega) (Nat.le_refl _); exact hq4.part (Nat.le_refl _) (by omega))) (.cons rfl (.cons rfl (.cons rfl (.cons rfl (.cons rfl (.cons rfl (.cons rfl (.cons rfl .nil)))))))) (by ((repeat (first | exact List.Sublist.refl _ | exact List.nil_sublist _ | apply List.Sublist.cons_cons | apply List.Sublist.cons)))) rfl
            · have hmg := hi
              refine At.seq ?_
              refine At.plain [(false, 0), (false, 1), (false, 2), (false, 3), (false, 4), (false, 5), (false, 6), (false, 7)] rfl ?_
              refine At.e rfl rfl rfl rfl .all (R.move (.t rfl)) ?_
              refine At.e rfl rfl rfl rfl .all (R.move (.t rfl)) ?_
              refine At.e rfl rfl rfl rfl .all (R.lss (.t rfl) (.t rfl)) ?_
              refine At.e rfl rfl rfl rfl .all (R.move (.t rfl)) ?_
              refine At.e rfl rfl rfl rfl .all (R.move (by exact .t rfl)) ?_
              refine At.e rfl rfl rfl rfl .all (R.move (by exact .t rfl)) ?_
              refine At.e rfl rfl rfl rfl .all (R.lss (by exact .s rfl) (by exact .s rfl)) ?_
              refine At.e rfl rfl rfl rfl .all (R.pickAnd (.t rfl) rfl (by simp_all)) ?_
              refine At.nil ?_
              refine At.tN ?_
              refine At.cond (.t rfl) (fun c14 => ?_) (fun c14 => ?_)
              · simp only [Bool.and_eq_true, decide_eq_true_eq] at c14
                refine At.plain [(false, 0), (false, 1), (false, 2), (false, 3), (false, 4), (false, 5)] rfl ?_
                refine At.e rfl rfl rfl rfl .all (R.move (.t rfl)) ?_
                refine At.e rfl rfl rfl rfl .all (R.move (.t rfl)) ?_
                refine At.e rfl rfl rfl rfl .all (R.move (.t rfl)) ?_
                refine At.e rfl rfl rfl rfl .all (R.move (.t rfl)) ?_
                refine At.e rfl rfl rfl rfl .all (R.move (.t rfl)) ?_
                refine At.callHE (fst := []) (cap := []) rfl rfl rfl Ev.f (.cons (.t rfl) (.cons (.t rfl) (.cons (.t rfl) (.cons (.t rfl) (.cons (.t rfl) .nil))))) rfl .nil (@ih (b - ((a + b) / 2)) (by omega) _ n ((a + b) / 2) ((a + b) / 2 + m - s) b l1 _ _ _ (Nat.le_refl _) (by omega) (by omega) (by omega) (by rw [hmg.1, hcr, hq1, hn]) hN (by exact Srt.out (by rw [hcr]; exact hq6) hmg.2.2.1 (.inr (Nat.le_refl _))) (by exact Srt.out (by rw [hcr]; exact hq7) hmg.2.2.1 (.inr (by omega))) (by omega) (by omega) rfl) rfl (fun _ => by (exact .h U0)) (fun _ => rfl) (fun l3 hl3 => ⟨.all, ?_⟩)
                refine At.nil ?_
                exact At.final0 rfl (List.nil_sublist _) (⟨rfl, rfl, l3, hcut.join (by omega) hs1 hs2 (hcr ▸ hmg) hl3, rfl⟩) _ (.inr rfl)
              · simp only [Bool.and_eq_false_iff, decide_eq_false_iff_not] at c14
                refine At.skip ?_
                exact At.final0 rfl (List.nil_sublist _) (⟨rfl, rfl, l1, hcut.join (by omega) hs1 hs2 (hcr ▸ hmg) (Mg.nil l1 (by rcases c14 with h | h; exact Srt.out (by rw [hcr]; exact hq7.part (by omega) (Nat.le_refl _)) hmg.2.2.1 (.inr (Nat.le_refl _)); exact Srt.out (by rw [hcr]; exact hq6.part (Nat.le_refl _) (by omega)) hmg.2.2.1 (.inr (Nat.le_refl _)))), rfl⟩) _ (.inr rfl)

end Go.Proofs.Ytejpanipdjknjaa
