/- Part of the proof: lemmas for what the last file states; no condition. -/
import Derived.Test.YtbolanigdkgbdaaGreatZF10
set_option linter.unusedSectionVars false
namespace Go.Proofs.YtbolanigdkgbdaaGreat
open Go Go.RowKit
set_option maxRecDepth 10000
set_option linter.unusedVariables false
set_option linter.unusedSectionVars false
set_option maxHeartbeats 1000000
theorem FnX.step0 {P : Program} {f : FuncId} {args : List Value} {S A A' : Hp} {R R' : Value → Hp → Prop} (h : FnX P f args S A R) (hp : A.Perm A') (hR : ∀ v B, R v B → ∃ M N' : Hp, M.Sublist B ∧ M.Perm N' ∧ R' v N') : FnX P f args S A' R' := (h.conv hR).perm hp
theorem Dw.bd.ok {k : Nat} {x : Dw} (h : x.bd k) (hk : k ≤ 100000000) : x.ok := by
  have h1 := h.b_x.big hk; have h2 := h.b_cur.big hk; have h3 := h.b_n.big hk; have h4 := h.th; have h5 := h.key
  exact ⟨by omega, h5, by omega, by omega, by omega⟩
theorem Dx.bd.ok {k : Nat} {x : Dx} (h : x.bd k) (hk : k ≤ 100000000) : x.ok := by
  have h1 := h.b_chunk.big hk; have h2 := h.b_g.big hk; have h3 := h.ii
  exact ⟨by omega, by omega, by omega⟩
theorem Dc.bd.ok {k : Nat} {x : Dc} (h : x.bd k) (hk : k ≤ 100000000) : x.ok := by
  have h1 := h.b_v.big hk; have h3 := h.tt
  exact ⟨by omega, by omega⟩
theorem Dl.bd.ok {k : Nat} {x : Dl} (h : x.bd k) (hk : k ≤ 100000000) : x.ok := by
  have h1 := h.b_chunk.big hk; have h2 := h.b_s.big hk; have h3 := h.b_g.big hk; have h4 := h.ii
  exact ⟨by omega, by omega, by omega, by omega⟩
theorem MeT.le {k j : Nat} {Fv : Value} {N : Hp} (h : MeT k Fv N) (hj : k ≤ j) : MeT j Fv N := by
  obtain ⟨gs, fb, NN, h1, h2, h3⟩ := h
  exact ⟨gs, fb, NN, by omega, h2, h3.le hj⟩
structure Pu.ok (k : Nat) (x : Pu) : Prop where
  th : 1 ≤ x.th ∧ x.th ≤ 16
  cap : 1 ≤ x.cap ∧ x.cap ≤ 16
  wd : 0 ≤ x.wd ∧ x.wd ≤ 1000000
  key : 0 ≤ x.key ∧ x.key ≤ 255
  data : Bd k x.data
theorem Pu.ok.le {k j : Nat} {x : Pu} (h : x.ok k) (hj : k ≤ j) : x.ok j := ⟨h.th, h.cap, h.wd, h.key, h.data.le hj⟩
def PuM (k pu : Nat) (dv : Value) (l0 : List Int) (N : Hp) : Prop := ∃ (x : Pu) (Dv : Value) (l : List Int) (wp xp mp : Option Nat) (ov : Bool) (NN : Hp), x.ok k ∧ DrO dv l0 Dv l ∧ N = puB pu Dv wp xp mp ov x :: NN ∧
  ((ov = true ∧ NN = []) ∨
   (ov = false ∧ mp = none ∧ xp = none ∧ ∃ wb u, wp = some wb ∧ u.bd k ∧ NN = [dwB wb u]) ∨
   (ov = false ∧ mp = none ∧ ∃ xb q, xp = some xb ∧ q.bd k ∧ NN = [dxB xb q]) ∨
   (ov = false ∧ ∃ mb Dm lm Fm y NR, mp = some mb ∧ DrO dv l0 Dm lm ∧ y.ok ∧ MeT k Fm NR ∧ NN = meB mb Dm Fm y :: NR))
theorem PuM.le {k j pu : Nat} {dv : Value} {l0 : List Int} {N : Hp} (h : PuM k pu dv l0 N) (hj : k ≤ j) : PuM j pu dv l0 N := by
  obtain ⟨x, Dv, l, wp, xp, mp, ov, NN, hx, hD, h0, h⟩ := h
  refine ⟨x, Dv, l, wp, xp, mp, ov, NN, hx.le hj, hD, h0, ?_⟩
  rcases h with h | ⟨h1, h2, h3, wb, u, h4, h5, h6⟩ | ⟨h1, h2, xb, q, h4, h5, h6⟩ | ⟨h1, mb, Dm, lm, Fm, y, NR, h2, h3, h4, h5, h6⟩
  · exact .inl h
  · exact .inr (.inl ⟨h1, h2, h3, wb, u, h4, h5.le hj, h6⟩)
  · exact .inr (.inr (.inl ⟨h1, h2, xb, q, h4, h5.le hj, h6⟩))
  · exact .inr (.inr (.inr ⟨h1, mb, Dm, lm, Fm, y, NR, h2, h3, h4, h5.le hj, h6⟩))
def PuR (n k pu ba : Nat) (wv dv : Value) (l0 : List Int) : Value → Hp → Prop := fun v N => ∃ (e : Bool) (r : Rr) (N2 : Hp), v = .bool e ∧ N = raB ba wv r :: raW wv n r :: N2 ∧ r.okk n (k + 1) ∧ PuM (k + 1) pu dv l0 N2
theorem pu_NewS {k : Nat} {dv Dv : Value} {l0 l : List Int} {th wd ver key data : Int} {cap : Nat} (hD : DrO dv l0 Dv l) (h1 : 1 ≤ th ∧ th ≤ 16) (h2 : 1 ≤ cap ∧ cap ≤ 16) (h3 : 0 ≤ wd ∧ wd ≤ 1000000) (h4 : 0 ≤ key ∧ key ≤ 255) (h5 : Bd k data) :
    FnX Tryz.prog 98 [.agg #[.int .i64 th, .int .i64 (cap : Int), .int .i64 wd, .int .i64 ver], .int .i64 key, .int .i64 data, Dv] [rdE zK dv l0] [] (fun v N => ∃ pu, v = .pointer (some ⟨pu, 0, none⟩) ∧ PuM k pu dv l0 N) := by
  have h00 : Bd k 0 := Bd.sm (by decide)
  refine FnX.step0 (pu_New hD) (.refl _) ?_
  rintro v B ⟨pu, wb, rfl, rfl⟩
  exact ⟨_, _, .refl _, .refl _, pu, rfl, _, Dv, l, some wb, none, none, false, _, ⟨h1, h2, h3, h4, h5⟩, hD, rfl, .inr (.inl ⟨rfl, rfl, rfl, wb, _, rfl, ⟨h00, h00, h00, h00, by show 0 ≤ th ∧ th ≤ 1000; omega, h4⟩, rfl⟩)⟩
theorem pu_Step {n k pu ba : Nat} {wv dv : Value} {l0 : List Int} {r : Rr} {N : Hp} (hP : PuM k pu dv l0 N) (hr : r.okk n k) (hn : n ≤ 1000000) (hk : k ≤ 800000) :
    FnX Tryz.prog 103 [.pointer (some ⟨pu, 0, none⟩), .pointer (some ⟨ba, 0, none⟩)] [rdE zK dv l0] (raB ba wv r :: raW wv n r :: N) (PuR n k pu ba wv dv l0) := by
  have hk2 : k ≤ 100000000 := by omega
  have hf := hr.few hk2; have hw := hr.big hk2; have hl0 := hr.len
  have hk1 : k ≤ k + 1 := Nat.le_succ k
  have h00 : Bd (k + 1) 0 := Bd.sm (by decide)
  obtain ⟨x, Dv, l, wp, xp, mp, ov, NN, hx, hD, rfl, h⟩ := hP
  have hx1 := hx.le hk1
  have hxt := hx.th; have hxc := hx.cap; have hxk := hx.key
  have hok : ∀ (p : Bool) (v e : Int), (⟨x.th, x.cap, x.wd, x.ver, x.key, x.data, v, e, p⟩ : Pu).ok (k + 1) := fun p v e => ⟨hx1.th, hx1.cap, hx1.wd, hx1.key, hx1.data⟩
  rcases h with ⟨rfl, rfl⟩ | ⟨rfl, rfl, rfl, wb, u, rfl, hu, rfl⟩ | ⟨rfl, rfl, xb, q, rfl, hq, rfl⟩ | ⟨rfl, mb, Dm, lm, Fm, y, NR, rfl, hDm, hy, hT, rfl⟩
  · refine FnX.stepS (T := [_, _]) (pu_Step0 (n := 0) (wv := wv) (l := l) (r := r) (ba := ba) (x := x) (Dv := Dv) (wp := wp) (xp := xp) (mp := mp)) (permOf [_, _, _] [0, 1, 2] [1, 2, 0] rfl []) ?_
    rintro v B ⟨rfl, rfl⟩
    exact ⟨_, _, .refl _, permOf [_, _, _] [0, 1, 2] [1, 2, 0] rfl [], true, r, _, rfl, rfl, hr.up, x, Dv, l, wp, xp, mp, true, [], hx1, hD, rfl, .inl ⟨rfl, rfl⟩⟩
  · have hst := hu.step hr
    refine FnX.step0 (pu_StepW (l := l) (ba := ba) (wv := wv) (x := x) (Dv := Dv) (wb := wb) (hu.ok hk2) hl0 hn hf hw) (permOf [_, _, _, _] [0, 1, 2, 3] [2, 3, 0, 1] rfl []) ?_
    rintro v B ⟨rfl, ⟨hz, rfl⟩ | ⟨hz, xb, rfl⟩⟩
    · exact ⟨_, _, .refl _, permOf [_, _, _, _] [0, 1, 2, 3] [2, 3, 0, 1] rfl [], false, _, _, rfl, rfl, hst.2, _, Dv, l, _, _, _, false, _, hok _ _ _, hD, rfl, .inr (.inl ⟨rfl, rfl, rfl, wb, _, rfl, hst.1, rfl⟩)⟩
    · refine ⟨_, _, .refl _, permOf [_, _, _, _] [0, 1, 2, 3] [2, 3, 1, 0] rfl [], false, _, _, rfl, rfl, hst.2, _, Dv, l, _, _, _, false, _, hok _ _ _, hD, rfl, .inr (.inr (.inl ⟨rfl, rfl, xb, _, rfl, ?_, rfl⟩))⟩
      exact ⟨hst.1.b_at, Bd.sm (by show -72057594037927936 ≤ x.key ∧ x.key ≤ 72057594037927936; omega), hx1.data, h00, Bd.sm (by show -72057594037927936 ≤ (-1 : Int) ∧ (-1 : Int) ≤ 72057594037927936; decide), by show 0 ≤ (x.cap : Int) ∧ (x.cap : Int) ≤ 16; omega, by show (-1 : Int) ≤ -1 ∧ (-1 : Int) ≤ 16; decide⟩
  · have hst := hq.step hr
    refine FnX.step0 (pu_StepX (ba := ba) (wv := wv) (x := x) (wp := wp) (xb := xb) hD (hq.ok hk2) hl0 hn hf hw) (permOf [_, _, _, _] [0, 1, 2, 3] [2, 3, 0, 1] rfl []) ?_
    rintro v B ⟨pl, ⟨hz, rfl, rfl⟩ | ⟨rfl, rfl⟩ | ⟨rfl, mb, vb, fb, lp, dr, rfl⟩⟩
    · exact ⟨_, _, .refl _, permOf [_, _, _, _] [0, 1, 2, 3] [2, 3, 0, 1] rfl [], false, _, _, rfl, rfl, hst.2, _, Dv, l, _, _, _, false, _, hok _ _ _, hD, rfl, .inr (.inr (.inl ⟨rfl, rfl, xb, _, rfl, hst.1, rfl⟩))⟩
    · exact ⟨[_, _, _], _, (by (apply List.Sublist.cons_cons; apply List.Sublist.cons; exact List.Sublist.refl _)), permOf [_, _, _] [0, 1, 2] [1, 2, 0] rfl [], true, _, _, rfl, rfl, hst.2, _, Dv, l, _, _, _, true, _, hok _ _ _, hD, rfl, .inl ⟨rfl, rfl⟩⟩
    · refine ⟨[_, _, _, _, _, _, _], _, (by (apply List.Sublist.cons_cons; apply List.Sublist.cons_cons; apply List.Sublist.cons_cons; apply List.Sublist.cons_cons; apply List.Sublist.cons_cons; apply List.Sublist.cons; exact List.Sublist.refl _)), permOf [_, _, _, _, _, _, _] [0, 1, 2, 3, 4, 5, 6] [5, 6, 4, 3, 0, 1, 2] rfl [], false, _, _, rfl, rfl, hst.2, _, Dv, l, _, _, _, false, _, hok _ _ _, hD, rfl, .inr (.inr (.inr ⟨rfl, mb, Dv, l, vb, _, _, rfl, hD, ⟨hxt, hxc, hx.wd⟩, ⟨[], fb, _, by show 0 < k + 1; omega, rfl, FrsM.snoc (NF := [_, _]) (NG := []) .nil ?_⟩, rfl⟩))⟩
      exact ⟨_, 1, 0, lp, none, none, none, none, _, ⟨hst.1.b_chunk, h00, h00, h00, h00, h00⟩, h00, .inl ⟨rfl, rfl, rfl⟩⟩
  · refine FnX.step0 (pu_StepM (ba := ba) (wv := wv) (x := x) (Dv := Dv) (wp := wp) (xp := xp) (mb := mb) hDm hy hT hr hn hk) (permOf [_, _, _] [0, 1, 2] [1, 2, 0] rfl (_ :: NR)) ?_
    rintro v B ⟨r2, y2, D2, F2, l2, NR2, hr2, hD2, ⟨rfl, rfl, hT2, rfl⟩ | ⟨wb, ev, ov, rfl, rfl⟩⟩
    · exact ⟨_, _, .refl _, permOf [_, _, _] [0, 1, 2] [1, 2, 0] rfl (_ :: NR2), false, _, _, rfl, rfl, hr2, _, D2, l2, _, _, _, false, _, hok _ _ _, hD2, rfl, .inr (.inr (.inr ⟨rfl, mb, D2, l2, F2, _, NR2, rfl, hD2, hy, hT2, rfl⟩))⟩
    · cases ov
      · exact ⟨_, _, .refl _, permOf [_, _, _, _] [0, 1, 2, 3] [2, 3, 1, 0] rfl [], false, _, _, rfl, rfl, hr2, _, D2, l2, _, _, _, false, _, hok _ _ _, hD2, rfl, .inr (.inl ⟨rfl, rfl, rfl, wb, _, rfl, ⟨h00, h00, h00, h00, by show 0 ≤ x.th ∧ x.th ≤ 1000; omega, hxk⟩, rfl⟩)⟩
      · exact ⟨[_, _, _], _, (by (apply List.Sublist.cons; exact List.Sublist.refl _)), permOf [_, _, _] [0, 1, 2] [1, 2, 0] rfl [], true, _, _, rfl, rfl, hr2, _, D2, l2, _, _, _, true, _, hok _ _ _, hD2, rfl, .inl ⟨rfl, rfl⟩⟩
end Go.Proofs.YtbolanigdkgbdaaGreat
namespace Go.Proofs.YtbolanigdkgbdaaGreat
open Go Go.RowKit
set_option maxRecDepth 10000
set_option linter.unusedVariables false
set_option linter.unusedSectionVars false
set_option maxHeartbeats 1000000
section
variable {P : Program} {f : FuncId} {args : List Value} {S' A : Hp}
theorem FnX.ofFn {R : Value → Hp → Hp → Prop} (h : Fn P f args S' [] R) (hS : ∀ w, (∀ e ∈ A, e.holds w) → ∀ e ∈ S', e.holds w) (hH : ∀ v N H, R v N H → H = []) : FnX P f args [] A (fun v N => ∃ N', R v N' [] ∧ N = N' ++ A ∧ ∃ w : World, ∀ e ∈ N', e.holds w) := by
  refine ⟨h.1, fun w hw => ?_⟩
  have hA : ∀ e ∈ A, e.holds w := fun e he => hw.has e (by simpa using he)
  have hAn : (keys A).Nodup := by have := hw.nodup; rw [List.append_nil] at this; exact this
  have h1 : @St noDf w w S' [] [] := ⟨rfl, rfl, rfl, Nat.le_refl _, (fun e he => nomatch he), hS w hA, List.nodup_nil, (fun k _ hk => nomatch hk), (fun e he => nomatch he), fun b _ _ _ => rfl⟩
  refine Calls.mono (h.2 w h1) fun e w' ⟨v, N', H', h2, h3, h4⟩ => ?_
  obtain rfl := hH _ _ _ h2
  have hold : ∀ k, k < w.heap.size → w'.heap[k]? = w.heap[k]? := fun k hk => h4.old k hk (fun h => nomatch h) noOwN
  have hN : (keys N').Nodup := by have := h4.nodup; rw [List.append_nil] at this; exact this
  refine ⟨v, _, ⟨N', h2, rfl, w', fun e he => h4.has e (List.mem_append_left _ he)⟩, h3, ?_⟩
  refine ⟨h4.os, h4.tape, h4.output, h4.size, fun e he => ?_, (fun e he => nomatch he), ?_, (fun k hk => nomatch hk), fun e he k hk => ?_, fun b h5 _ _ => hold b h5⟩
  · rw [List.append_nil] at he
    rcases List.mem_append.1 he with he | he
    · exact h4.has e (List.mem_append_left _ he)
    · exact Ent.keep (hA e he) h4.size fun k hk => hold k (Ent.lt (hA e he) hk)
  · rw [List.append_nil, keys_append]
    refine List.nodup_append.2 ⟨hN, hAn, fun a ha b hb e => ?_⟩
    subst e
    obtain ⟨y, hy, hyk⟩ := List.mem_filterMap.1 ha
    obtain ⟨z, hz, hzk⟩ := List.mem_filterMap.1 hb
    have h6 := Ent.lt (hA z hz) hzk
    rcases h4.fresh y hy a hyk with h7 | h7
    · omega
    · cases h7
  · rcases List.mem_append.1 he with he | he
    · rcases h4.fresh e he k hk with h7 | h7
      · exact .inl h7
      · cases h7
    · exact .inr (mem_keys he hk)
theorem FnX.ofV {x : Value} (h : Fn P f args S' [] (IsV x)) (hS : ∀ w, (∀ e ∈ A, e.holds w) → ∀ e ∈ S', e.holds w) : FnX P f args [] A (IsO x A) :=
  (FnX.ofFn h hS fun v N H h => h.2.2).mono fun v N ⟨N', h1, h2, _⟩ => by
    obtain ⟨rfl, rfl, _⟩ := h1
    exact ⟨rfl, h2⟩
end
theorem takesD_len (l : List Itm) : ∀ its : List Itm, (l.foldl takeD its).length ≤ its.length + l.length := by
  induction l with
  | nil => intro its; simp
  | cons y l ih => intro its; have h1 := ih (takeD its y); have h2 := takeD_len its y; simp only [List.foldl_cons, List.length_cons]; omega
def GeM (k bg : Nat) (N : Hp) : Prop := ∃ (a b c d key : Int) (bw : Nat), (0 ≤ a ∧ a ≤ 1000) ∧ (0 ≤ b ∧ b ≤ 16) ∧ (0 ≤ key ∧ key ≤ 255) ∧
  ((∃ u, u.bd k ∧ N = [dgB bg a b c d key bw none false, dwB bw u]) ∨
   (∃ bl o u y Lv, y.bd k ∧ N = [dgB bg a b c d key bw (some bl) o, dwB bw u, dlB bl Lv y, rowE iK 43 Lv y.l]))
theorem GeM.le {k j bg : Nat} {N : Hp} (h : GeM k bg N) (hj : k ≤ j) : GeM j bg N := by
  obtain ⟨a, b, c, d, key, bw, h1, h2, h3, ⟨u, h4, h5⟩ | ⟨bl, o, u, y, Lv, h4, h5⟩⟩ := h
  · exact ⟨a, b, c, d, key, bw, h1, h2, h3, .inl ⟨u, h4.le hj, h5⟩⟩
  · exact ⟨a, b, c, d, key, bw, h1, h2, h3, .inr ⟨bl, o, u, y, Lv, h4.le hj, h5⟩⟩
theorem ge_New {k bg bw : Nat} {a b c d key : Int} (h1 : 0 ≤ a ∧ a ≤ 1000) (h2 : 0 ≤ b ∧ b ≤ 16) (h3 : 0 ≤ key ∧ key ≤ 255) : GeM k bg [dgB bg a b c d key bw none false, dwB bw ⟨a, b, c, d, key, 1, 0, 0, 0, 0⟩] :=
  have h00 : Bd k 0 := Bd.sm (by decide)
  ⟨a, b, c, d, key, bw, h1, h2, h3, .inl ⟨_, ⟨h00, h00, h00, h00, h1, h3⟩, rfl⟩⟩
theorem ge_Step {n k bg ba : Nat} {wv : Value} {r : Rr} {N : Hp} (hG : GeM k bg N) (hr : r.okk n k) (hn : n ≤ 1000000) (hk : k ≤ 800000) :
    FnX Tryz.prog 104 [.pointer (some ⟨bg, 0, none⟩), .pointer (some ⟨ba, 0, none⟩)] [] (raB ba wv r :: raW wv n r :: N) (fun v N' => ∃ (e : Bool) (r2 : Rr) (N2 : Hp), v = .bool e ∧ N' = raB ba wv r2 :: raW wv n r2 :: N2 ∧ r2.okk n (k + 1) ∧ GeM (k + 1) bg N2) := by
  have hk2 : k ≤ 100000000 := by omega
  have hf := hr.few hk2; have hw := hr.big hk2; have hl0 := hr.len
  have hk1 : k ≤ k + 1 := Nat.le_succ k
  have h00 : Bd (k + 1) 0 := Bd.sm (by decide)
  obtain ⟨a, b, c, d, key, bw, h1, h2, h3, ⟨u, hu, rfl⟩ | ⟨bl, o, u, y, Lv, hy, rfl⟩⟩ := hG
  · have hst := hu.step hr
    by_cases hz : (u.step r).1.line = 0
    · refine FnX.step0 (dg_StepE (bg := bg) (ba := ba) (wv := wv) (a := a) (b := b) (c := c) (d := d) (key := key) (hu.ok hk2) hl0 hn hf hw hz) (permOf [_, _, _, _] [0, 1, 2, 3] [2, 3, 0, 1] rfl []) ?_
      rintro v B ⟨bl, rfl, rfl⟩
      refine ⟨_, _, .refl _, permOf [_, _, _, _, _, _] [0, 1, 2, 3, 4, 5] [4, 5, 0, 1, 2, 3] rfl [], false, _, _, rfl, rfl, hst.2, a, b, c, d, key, bw, h1, h2, h3, .inr ⟨bl, false, _, _, _, ?_, rfl⟩⟩
      exact ⟨hst.1.b_at, h00, h00, h2, by show (0 : Int) ≤ 0 ∧ (0 : Int) ≤ 16; decide, by show (0 : Int) ≤ 16; decide, .inr (.inl rfl), fun _ => rfl, by show (0 : Int) ≤ 0; decide⟩
    · refine FnX.step0 (dg_StepW (bg := bg) (ba := ba) (wv := wv) (a := a) (b := b) (c := c) (d := d) (key := key) (hu.ok hk2) hl0 hn hf hw hz) (permOf [_, _, _, _] [0, 1, 2, 3] [2, 3, 0, 1] rfl []) ?_
      rintro v B ⟨rfl, rfl⟩
      exact ⟨_, _, .refl _, permOf [_, _, _, _] [0, 1, 2, 3] [2, 3, 0, 1] rfl [], false, _, _, rfl, rfl, hst.2, a, b, c, d, key, bw, h1, h2, h3, .inl ⟨_, hst.1, rfl⟩⟩
  · cases o
    · have hst := hy.step hr
      have hyl : y.l.length ≤ 10000 := by have := hy.ll; have := hy.ii; omega
      refine FnX.step0 (dg_StepL (bg := bg) (ba := ba) (wv := wv) (a := a) (b := b) (c := c) (d := d) (key := key) (u := u) (Lv := Lv) (bl := bl) (hy.ok hk2) hyl hl0 hn hf hw) (permOf [_, _, _, _, _, _] [0, 1, 2, 3, 4, 5] [4, 5, 0, 1, 2, 3] rfl []) ?_
      rintro v B ⟨Lv2, rfl, rfl⟩
      exact ⟨_, _, .refl _, permOf [_, _, _, _, _, _] [0, 1, 2, 3, 4, 5] [4, 5, 0, 1, 2, 3] rfl [], _, _, _, rfl, rfl, hst.2, a, b, c, d, key, bw, h1, h2, h3, .inr ⟨bl, _, u, _, Lv2, hst.1, rfl⟩⟩
    · refine FnX.stepM (T := [_, _, _, _, _]) (dg_StepO (n := 0) (wv := wv) (lv := wv) (r := r) (bg := bg) (ba := ba) (bw := bw) (ll := some bl)) rfl (permOf [_, _, _, _, _, _] [0, 1, 2, 3, 4, 5] [1, 2, 0, 3, 4, 5] rfl []) (permOf [_, _, _, _, _, _] [0, 1, 2, 3, 4, 5] [1, 2, 0, 3, 4, 5] rfl []) ?_
      exact ⟨true, r, _, rfl, rfl, hr.up, a, b, c, d, key, bw, h1, h2, h3, .inr ⟨bl, true, u, y, Lv, hy.le hk1, rfl⟩⟩
theorem ge_Answer {k bg : Nat} {N : Hp} (hG : GeM k bg N) : FnX Tryz.prog 105 [.pointer (some ⟨bg, 0, none⟩)] [] N (fun v N' => ∃ (an : An) (pv : SV), v = .agg (anV an pv.1) ∧ N' = N) := by
  obtain ⟨a, b, c, d, key, bw, h1, h2, h3, ⟨u, hu, rfl⟩ | ⟨bl, o, u, y, Lv, hy, rfl⟩⟩ := hG
  · refine (FnX.ofV (dg_Answer0 (bg := bg) (bw := bw) (a := a) (b := b) (c := c) (d := d) (key := key) (ll := none)) fun w h e he => ?_).mono fun v N h => ⟨_, ⟨.slice none 0 0, rfl⟩, h.1, h.2⟩
    rw [List.mem_singleton.1 he]; exact h _ (.head _)
  · cases o
    · refine (FnX.ofV (dg_Answer0 (bg := bg) (bw := bw) (a := a) (b := b) (c := c) (d := d) (key := key) (ll := some bl)) fun w h e he => ?_).mono fun v N h => ⟨_, ⟨.slice none 0 0, rfl⟩, h.1, h.2⟩
      rw [List.mem_singleton.1 he]; exact h _ (.head _)
    · have hyl : y.l.length ≤ 1000000 := by have := hy.ll; have := hy.ii; omega
      refine (FnX.ofV (dg_Answer1 (bg := bg) (bw := bw) (a := a) (b := b) (c := c) (d := d) (key := key) (bl := bl) (Lv := Lv) hyl) fun w h e he => ?_).mono fun v N h => ⟨_, ⟨.slice none 0 0, rfl⟩, h.1, h.2⟩
      simp only [List.mem_cons, List.not_mem_nil, or_false] at he
      rcases he with rfl | rfl | rfl
      · exact h _ (.head _)
      · exact h _ (.tail _ (.tail _ (.head _)))
      · exact rdIs_row (h _ (.tail _ (.tail _ (.tail _ (.head _)))))
structure Ds.ok (k : Nat) (x : Ds) : Prop where
  th : 1 ≤ x.th ∧ x.th ≤ 16
  cap : 0 ≤ x.cap ∧ x.cap ≤ 16
  tt : 0 ≤ x.t ∧ x.t ≤ 1000
  lo : 0 ≤ x.lo ∧ x.lo ≤ 255
  b_at : Bd k x.at_
  b_n : Bd k x.n
theorem Ds.ok.le {k j : Nat} {x : Ds} (h : x.ok k) (hj : k ≤ j) : x.ok j := ⟨h.th, h.cap, h.tt, h.lo, h.b_at.le hj, h.b_n.le hj⟩
def ScM (k b : Nat) (N : Hp) : Prop := ∃ (x : Ds) (kp : Nat) (q : Dc) (wp lp : Option Nat) (Iv : Value) (its : List Itm) (NN : Hp), x.ok k ∧ q.bd k ∧ its.length ≤ k ∧ N = dsB b kp wp lp Iv x :: dcB kp q :: rowE iK 43 Iv its :: NN ∧
  ((x.line = 10 ∧ wp = none ∧ lp = none ∧ NN = []) ∨
   (x.line = 11 ∧ ∃ bw u, wp = some bw ∧ u.bd k ∧ NN = [dwB bw u]) ∨
   (x.line = 1 ∧ ∃ bl Lv y, lp = some bl ∧ y.bd k ∧ its.length + y.l.length ≤ k ∧ NN = [dlB bl Lv y, rowE iK 43 Lv y.l]) ∨
   ((x.line = 2 ∨ x.line = 3 ∨ x.line = 4 ∨ x.line = 0) ∧ NN = []))
theorem ScM.le {k j b : Nat} {N : Hp} (h : ScM k b N) (hj : k ≤ j) : ScM j b N := by
  obtain ⟨x, kp, q, wp, lp, Iv, its, NN, h1, h2, h3, h4, h⟩ := h
  refine ⟨x, kp, q, wp, lp, Iv, its, NN, h1.le hj, h2.le hj, by omega, h4, ?_⟩
  rcases h with h | ⟨h5, bw, u, h6, h7, h8⟩ | ⟨h5, bl, Lv, y, h6, h7, h8, h9⟩ | h
  · exact .inl h
  · exact .inr (.inl ⟨h5, bw, u, h6, h7.le hj, h8⟩)
  · exact .inr (.inr (.inl ⟨h5, bl, Lv, y, h6, h7.le hj, by omega, h9⟩))
  · exact .inr (.inr (.inr h))
theorem sc_New {k b kp : Nat} {x1 x2 x3 x4 t seq lo hi : Int} (h1 : 1 ≤ x1 ∧ x1 ≤ 16) (h2 : 0 ≤ x2 ∧ x2 ≤ 16) (h3 : 0 ≤ t ∧ t ≤ 1000) (h4 : 0 ≤ lo ∧ lo ≤ 255) : ScM k b [dsB b kp none none (.slice none 0 0) ⟨x1, x2, x3, x4, t, seq, lo, hi, 10, 0, 0⟩, dcB kp ⟨x1, x2, x3, x4, t, seq, 1, 0, 0, 0⟩, rowE iK 43 (.slice none 0 0) []] :=
  have h00 : Bd k 0 := Bd.sm (by decide)
  ⟨_, kp, _, none, none, _, [], [], ⟨h1, h2, h3, h4, h00, h00⟩, ⟨h00, h00, h3, trivial⟩, Nat.zero_le _, rfl, .inl ⟨rfl, rfl, rfl, rfl⟩⟩
theorem dlNew_bd {k : Nat} {x1 x2 x3 x4 ch lo hi most : Int} (h1 : Bd k ch) (h2 : 0 ≤ x2 ∧ x2 ≤ 16) : (⟨x1, x2, x3, x4, ch, lo, hi, most, 1, 0, 0, 0, 0, 0, []⟩ : Dl).bd k :=
  have h00 : Bd k 0 := Bd.sm (by decide)
  ⟨h1, h00, h00, h2, by show (0 : Int) ≤ 0 ∧ (0 : Int) ≤ 16; decide, by show (0 : Int) ≤ 16; decide, .inr (.inl rfl), fun _ => rfl, by show (0 : Int) ≤ 0; decide⟩
theorem Dl.step_len (x : Dl) (r : Rr) : (x.step r).1.l.length ≤ x.l.length + 1 := by
  unfold Dl.step
  repeat' split
  all_goals (try rw [Dl.next_l])
  all_goals (try rw [Dl.seven_l])
  all_goals (try dsimp only)
  all_goals first | omega | (have := putD_le x.l ⟨x.k, verD x.s, r.peek ((x.chunk + 7 + 3 * x.i) + 2)⟩; omega)
theorem sc_Step {n k b ba : Nat} {wv : Value} {r : Rr} {N : Hp} (hG : ScM k b N) (hr : r.okk n k) (hn : n ≤ 1000000) (hk : k ≤ 800000) :
    FnX Tryz.prog 106 [.pointer (some ⟨b, 0, none⟩), .pointer (some ⟨ba, 0, none⟩)] [] (raB ba wv r :: raW wv n r :: N) (fun v N' => ∃ (e : Bool) (r2 : Rr) (N2 : Hp), v = .bool e ∧ N' = raB ba wv r2 :: raW wv n r2 :: N2 ∧ r2.okk n (k + 1) ∧ ScM (k + 1) b N2) := by
  have hk2 : k ≤ 100000000 := by omega
  have hf := hr.few hk2; have hw := hr.big hk2; have hl0 := hr.len
  have hk1 : k ≤ k + 1 := Nat.le_succ k
  have h00 : Bd (k + 1) 0 := Bd.sm (by decide)
  obtain ⟨x, kp, q, wp, lp, Iv, its, NN, hx, hq, hi, rfl, h⟩ := hG
  have hx1 := hx.le hk1; have hq1 := hq.le hk1
  have hi1 : its.length ≤ k + 1 := by omega
  have hxa := hx.b_at.big hk2; have hxn := hx.b_n.big hk2; have hxt := hx.tt; have hth := hx.th
  have hok : ∀ (ln at_ m : Int), Bd (k + 1) at_ → Bd (k + 1) m → (⟨x.th, x.cap, x.wd, x.ver, x.t, x.seq, x.lo, x.hi, ln, at_, m⟩ : Ds).ok (k + 1) := fun ln at_ m h1 h2 => ⟨hx1.th, hx1.cap, hx1.tt, hx1.lo, h1, h2⟩
  rcases h with ⟨hl, rfl, rfl, rfl⟩ | ⟨hl, bw, u, rfl, hu, rfl⟩ | ⟨hl, bl, Lv, y, rfl, hy, hyl, rfl⟩ | ⟨hl, rfl⟩
  · by_cases hc : x.hi < x.lo
    · refine FnX.stepX (T := [_, _, _, _]) (ds_Step10n (ba := ba) (Iv := Iv) (kp := kp) hl hc) (permOf [_, _, _, _, _] [0, 1, 2, 3, 4] [1, 2, 0, 3, 4] rfl []) ?_
      rintro v B ⟨rfl, rfl⟩
      exact ⟨_, _, .refl _, permOf [_, _, _, _, _] [0, 1, 2, 3, 4] [1, 2, 0, 3, 4] rfl [], true, r, _, rfl, rfl, hr.up, _, kp, q, _, _, Iv, its, [], hok _ _ _ hx1.b_at hx1.b_n, hq1, hi1, rfl, .inr (.inr (.inr ⟨.inr (.inr (.inr rfl)), rfl⟩))⟩
    · have hst := hq.step hr
      by_cases he : (q.step r).1.line = 0
      · by_cases hqe : (q.step r).1.e = 0
        · refine FnX.stepX (T := [_]) (ds_Step10b (ba := ba) (Iv := Iv) (wv := wv) (kp := kp) hl hc (hq.ok hk2) hl0 hn hf hw he hqe) (permOf [_, _, _, _, _] [0, 1, 2, 3, 4] [2, 3, 0, 1, 4] rfl []) ?_
          rintro v B ⟨bw, rfl, rfl⟩
          exact ⟨_, _, .refl _, permOf [_, _, _, _, _, _] [0, 1, 2, 3, 4, 5] [3, 4, 1, 2, 5, 0] rfl [], false, _, _, rfl, rfl, hst.2, _, kp, _, _, _, Iv, its, _, hok _ _ _ hx1.b_at hx1.b_n, hst.1, hi1, rfl, .inr (.inl ⟨rfl, bw, _, rfl, ⟨h00, h00, h00, h00, by show 0 ≤ x.th ∧ x.th ≤ 1000; omega, hx.lo⟩, rfl⟩)⟩
        · refine FnX.stepX (T := [_]) (ds_Step10c (ba := ba) (Iv := Iv) (wv := wv) (kp := kp) hl hc (hq.ok hk2) hl0 hn hf hw he hqe) (permOf [_, _, _, _, _] [0, 1, 2, 3, 4] [2, 3, 0, 1, 4] rfl []) ?_
          rintro v B ⟨bw, rfl, rfl⟩
          exact ⟨[_, _, _, _, _], _, (by (apply List.Sublist.cons; exact List.Sublist.refl _)), permOf [_, _, _, _, _] [0, 1, 2, 3, 4] [2, 3, 0, 1, 4] rfl [], true, _, _, rfl, rfl, hst.2, _, kp, _, _, _, Iv, its, _, hok _ _ _ hx1.b_at hx1.b_n, hst.1, hi1, rfl, .inr (.inr (.inr ⟨.inr (.inr (.inr rfl)), rfl⟩))⟩
      · refine FnX.stepX (T := [_]) (ds_Step10a (ba := ba) (Iv := Iv) (wv := wv) (kp := kp) hl hc (hq.ok hk2) hl0 hn hf hw he) (permOf [_, _, _, _, _] [0, 1, 2, 3, 4] [2, 3, 0, 1, 4] rfl []) ?_
        rintro v B ⟨rfl, rfl⟩
        exact ⟨_, _, .refl _, permOf [_, _, _, _, _] [0, 1, 2, 3, 4] [2, 3, 0, 1, 4] rfl [], false, _, _, rfl, rfl, hst.2, _, kp, _, _, _, Iv, its, _, hx1, hst.1, hi1, rfl, .inl ⟨hl, rfl, rfl, rfl⟩⟩
  · have hst := hu.step hr
    by_cases he : (u.step r).1.line = 0
    · refine FnX.stepX (T := [_]) (ds_Step11b (ba := ba) (Iv := Iv) (wv := wv) (kp := kp) (k := q) (lp := lp) (bw := bw) hl (hu.ok hk2) hl0 hn hf hw he) (permOf [_, _, _, _, _, _] [0, 1, 2, 3, 4, 5] [3, 4, 0, 1, 5, 2] rfl []) ?_
      rintro v B ⟨bl, rfl, rfl⟩
      exact ⟨[_, _, _, _, _, _, _], _, (by (apply List.Sublist.cons_cons; apply List.Sublist.cons_cons; apply List.Sublist.cons_cons; apply List.Sublist.cons_cons; apply List.Sublist.cons; exact List.Sublist.refl _)), permOf [_, _, _, _, _, _, _] [0, 1, 2, 3, 4, 5, 6] [4, 5, 0, 3, 6, 1, 2] rfl [], false, _, _, rfl, rfl, hst.2, _, kp, q, _, _, Iv, its, _, hok _ _ _ hst.1.b_at hx1.b_n, hq1, hi1, rfl, .inr (.inr (.inl ⟨rfl, bl, _, _, rfl, dlNew_bd hst.1.b_at hx.cap, by show its.length + 0 ≤ k + 1; omega, rfl⟩))⟩
    · refine FnX.stepX (T := [_]) (ds_Step11a (ba := ba) (Iv := Iv) (wv := wv) (kp := kp) (k := q) (lp := lp) (bw := bw) hl (hu.ok hk2) hl0 hn hf hw he) (permOf [_, _, _, _, _, _] [0, 1, 2, 3, 4, 5] [3, 4, 0, 1, 5, 2] rfl []) ?_
      rintro v B ⟨rfl, rfl⟩
      exact ⟨_, _, .refl _, permOf [_, _, _, _, _, _] [0, 1, 2, 3, 4, 5] [3, 4, 0, 1, 5, 2] rfl [], false, _, _, rfl, rfl, hst.2, _, kp, q, _, _, Iv, its, _, hx1, hq1, hi1, rfl, .inr (.inl ⟨hl, bw, _, rfl, hst.1, rfl⟩)⟩
  · have hst := hy.step hr
    have hsl := Dl.step_len y r
    have hyi := hy.ii; have hyll := hy.ll
    have hsi := hst.1.ii; have hsll := hst.1.ll
    by_cases he : (y.step r).1.line = 0
    · refine FnX.stepX (T := [_]) (ds_Step1b (ba := ba) (Iv := Iv) (wv := wv) (kp := kp) (wp := wp) (bl := bl) (Lv := Lv) (its := its) hl (hy.ok hk2) (by omega) (by omega) hl0 hn hf hw he (by omega)) (permOf [_, _, _, _, _, _, _] [0, 1, 2, 3, 4, 5, 6] [4, 5, 1, 6, 0, 2, 3] rfl []) ?_
      rintro v B ⟨Iv2, Lv2, rfl, rfl⟩
      have htl := takesD_len (y.step r).1.l its
      exact ⟨[_, _, _, _, _], _, (by (apply List.Sublist.cons_cons; apply List.Sublist.cons_cons; apply List.Sublist.cons; apply List.Sublist.cons; exact List.Sublist.refl _)), permOf [_, _, _, _, _] [0, 1, 2, 3, 4] [2, 3, 1, 4, 0] rfl [], false, _, _, rfl, rfl, hst.2, _, kp, q, _, _, Iv2, _, _, hok _ _ _ hx1.b_at hx1.b_n, hq1, by omega, rfl, .inr (.inr (.inr ⟨.inl rfl, rfl⟩))⟩
    · refine FnX.stepX (T := [_]) (ds_Step1a (ba := ba) (Iv := Iv) (wv := wv) (kp := kp) (wp := wp) (bl := bl) (Lv := Lv) (its := its) hl (hy.ok hk2) (by omega) (by omega) hl0 hn hf hw he) (permOf [_, _, _, _, _, _, _] [0, 1, 2, 3, 4, 5, 6] [4, 5, 1, 6, 0, 2, 3] rfl []) ?_
      rintro v B ⟨Lv2, rfl, rfl⟩
      exact ⟨_, _, .refl _, permOf [_, _, _, _, _, _, _] [0, 1, 2, 3, 4, 5, 6] [4, 5, 1, 6, 0, 2, 3] rfl [], false, _, _, rfl, rfl, hst.2, _, kp, q, _, _, Iv, its, _, hx1, hq1, hi1, rfl, .inr (.inr (.inl ⟨hl, bl, Lv2, _, rfl, hst.1, by omega, rfl⟩))⟩
  · rcases hl with hl | hl | hl | hl
    · refine FnX.stepX (T := [_, _]) (ds_Step2 (ba := ba) (Iv := Iv) (wv := wv) (kp := kp) (wp := wp) (lp := lp) hl (by omega) (by omega) hl0 hn hf hw) (permOf [_, _, _, _, _] [0, 1, 2, 3, 4] [1, 2, 0, 3, 4] rfl []) ?_
      rintro v B ⟨rfl, rfl⟩
      by_cases hz : r.peek (x.at_ + 2) / 2 = 0
      · rw [if_pos hz]
        exact ⟨_, _, .refl _, permOf [_, _, _, _, _] [0, 1, 2, 3, 4] [1, 2, 0, 3, 4] rfl [], false, _, _, rfl, rfl, hr.load _, _, kp, q, _, _, Iv, its, [], hok _ _ _ hx1.b_at (hr.pk _).half, hq1, hi1, rfl, .inr (.inr (.inr ⟨.inr (.inr (.inl rfl)), rfl⟩))⟩
      · rw [if_neg hz]
        exact ⟨_, _, .refl _, permOf [_, _, _, _, _] [0, 1, 2, 3, 4] [1, 2, 0, 3, 4] rfl [], false, _, _, rfl, rfl, hr.load _, _, kp, q, _, _, Iv, its, [], hok _ _ _ hx1.b_at (hr.pk _).half, hq1, hi1, rfl, .inr (.inr (.inr ⟨.inr (.inl rfl), rfl⟩))⟩
    · by_cases hc : r.peek x.n ≤ x.hi
      · refine FnX.stepX (T := [_]) (ds_Step3b (ba := ba) (Iv := Iv) (wv := wv) (kp := kp) (wp := wp) (lp := lp) (k := q) hl (by omega) (by omega) hl0 hn hf hw hc) (permOf [_, _, _, _, _] [0, 1, 2, 3, 4] [2, 3, 0, 1, 4] rfl []) ?_
        rintro v B ⟨bl, rfl, rfl⟩
        exact ⟨_, _, .refl _, permOf [_, _, _, _, _, _, _] [0, 1, 2, 3, 4, 5, 6] [4, 5, 0, 3, 6, 1, 2] rfl [], false, _, _, rfl, rfl, hr.load _, _, kp, q, _, _, Iv, its, _, hok _ _ _ hx1.b_n hx1.b_n, hq1, hi1, rfl, .inr (.inr (.inl ⟨rfl, bl, _, _, rfl, dlNew_bd hx1.b_n hx.cap, by show its.length + 0 ≤ k + 1; omega, rfl⟩))⟩
      · refine FnX.stepX (T := [_, _]) (ds_Step3a (ba := ba) (Iv := Iv) (wv := wv) (kp := kp) (wp := wp) (lp := lp) hl (by omega) (by omega) hl0 hn hf hw hc) (permOf [_, _, _, _, _] [0, 1, 2, 3, 4] [1, 2, 0, 3, 4] rfl []) ?_
        rintro v B ⟨rfl, rfl⟩
        exact ⟨_, _, .refl _, permOf [_, _, _, _, _] [0, 1, 2, 3, 4] [1, 2, 0, 3, 4] rfl [], false, _, _, rfl, rfl, hr.load _, _, kp, q, _, _, Iv, its, [], hok _ _ _ hx1.b_at hx1.b_n, hq1, hi1, rfl, .inr (.inr (.inr ⟨.inr (.inr (.inl rfl)), rfl⟩))⟩
    · refine FnX.stepX (T := [_, _]) (ds_Step4 (ba := ba) (Iv := Iv) (wv := wv) (kp := kp) (wp := wp) (lp := lp) hl (by omega) hl0 hn hf hw) (permOf [_, _, _, _, _] [0, 1, 2, 3, 4] [1, 2, 0, 3, 4] rfl []) ?_
      rintro v B ⟨rfl, rfl⟩
      exact ⟨_, _, .refl _, permOf [_, _, _, _, _] [0, 1, 2, 3, 4] [1, 2, 0, 3, 4] rfl [], true, _, _, rfl, rfl, hr.store Bd.claim, _, kp, q, _, _, Iv, its, [], hok _ _ _ hx1.b_at hx1.b_n, hq1, hi1, rfl, .inr (.inr (.inr ⟨.inr (.inr (.inr rfl)), rfl⟩))⟩
    · refine FnX.stepX (T := [_, _, _, _]) (ds_Step0 (ba := ba) (Iv := Iv) (kp := kp) (wp := wp) (lp := lp) hl) (permOf [_, _, _, _, _] [0, 1, 2, 3, 4] [1, 2, 0, 3, 4] rfl []) ?_
      rintro v B ⟨rfl, rfl⟩
      exact ⟨_, _, .refl _, permOf [_, _, _, _, _] [0, 1, 2, 3, 4] [1, 2, 0, 3, 4] rfl [], true, r, _, rfl, rfl, hr.up, x, kp, q, _, _, Iv, its, [], hx1, hq1, hi1, rfl, .inr (.inr (.inr ⟨.inr (.inr (.inr hl)), rfl⟩))⟩
theorem sc_Answer {k b : Nat} {N : Hp} (hG : ScM k b N) (hk : k ≤ 900000) : FnX Tryz.prog 107 [.pointer (some ⟨b, 0, none⟩)] [] N (fun v N' => ∃ (an : An) (pv : SV), v = .agg (anV an pv.1) ∧ N' = N) := by
  obtain ⟨x, kp, q, wp, lp, Iv, its, NN, hx, hq, hi, rfl, h⟩ := hG
  by_cases hl : x.line = 0
  · by_cases he : q.e = 0
    · refine (FnX.ofFn (ds_Answer (b := b) (its := its) (k := q) (x := x) (kp := kp) (wp := wp) (lp := lp) (Iv := Iv) hl he (by omega)) (fun w h e he => ?_) fun v N H h => h.elim fun _ h => h.2.2).conv fun v N h => ?_
      · simp only [List.mem_cons, List.not_mem_nil, or_false] at he
        rcases he with rfl | rfl | rfl
        · exact h _ (.head _)
        · exact h _ (.tail _ (.head _))
        · exact rdIs_row (h _ (.tail _ (.tail _ (.head _))))
      · obtain ⟨N', ⟨pv, h1, h2, _⟩, h3, w, h4⟩ := h
        subst h2 h3
        have h5 : pv.oneCell' = true := by
          obtain ⟨_, ⟨h5, _⟩ | ⟨g, c, _, h5, _⟩⟩ := h4 _ (.head _)
          · rw [h5]; rfl
          · rw [h5]; rfl
        exact ⟨_, _, List.sublist_append_right _ _, .refl _, _, ⟨pv, h5⟩, h1, rfl⟩
    · refine (FnX.ofV (ds_AnswerE (b := b) (its := its) (kp := kp) (wp := wp) (lp := lp) (Iv := Iv) hl he) fun w h e he => ?_).mono fun v N h => ⟨_, ⟨.slice none 0 0, rfl⟩, h.1, h.2⟩
      simp only [List.mem_cons, List.not_mem_nil, or_false] at he
      rcases he with rfl | rfl
      · exact h _ (.head _)
      · exact h _ (.tail _ (.head _))
  · refine (FnX.ofV (ds_Answer0 (b := b) (k := q) (its := its) (kp := kp) (wp := wp) (lp := lp) (Iv := Iv) hl) fun w h e he => ?_).mono fun v N h => ⟨_, ⟨.slice none 0 0, rfl⟩, h.1, h.2⟩
    rw [List.mem_singleton.1 he]; exact h _ (.head _)
end Go.Proofs.YtbolanigdkgbdaaGreat
namespace Go.Proofs.YtbolanigdkgbdaaGreat
open Go Go.RowKit
set_option linter.unusedVariables false
set_option linter.unusedSectionVars false
section
variable {α : Type} [Inhabited α]
theorem setL_app (pre post : List Value) : ∀ (c mid : List Value) (q : Nat), q + c.length ≤ mid.length → setL (pre ++ mid ++ post) (pre.length + q) c = pre ++ setL mid q c ++ post
  | [], mid, q, _ => rfl
  | v :: c, mid, q, h => by
    have hl : q < mid.length := by simp at h; omega
    have e : (pre ++ mid ++ post).set (pre.length + q) v = pre ++ mid.set q v ++ post := by
      rw [List.append_assoc, List.set_append_right _ _ (by omega), Nat.add_sub_cancel_left, List.set_append_left _ _ hl, List.append_assoc]
    have := setL_app pre post c (mid.set q v) (q + 1) (by simp at h ⊢; omega)
    simp only [setL, e]
    exact this
theorem gE_mid {a b : List α} {x : α} : gE (a ++ x :: b) (a.length : Int) = x := by simp [gE]
theorem Ek.all_mid (k : Ek α) {a b : List α} {x : α} : k.all (a ++ x :: b) = k.all a ++ k.enc x ++ k.all b := by rw [k.all_append, k.all_cons, List.append_assoc]
theorem Ek.getM {k : Ek α} {a b : List α} {x : α} {q : Nat} {u : Value} (hu : (k.enc x)[q]? = some u) : (k.all (a ++ x :: b))[(a.length : Int).toNat * k.sz + q]? = some u :=
  k.all_get _ q (by rw [gE_mid]; exact hu) (by simp; omega)
theorem midB {a b : List α} {x : α} : 0 ≤ (a.length : Int) ∧ (a.length : Int) < ((a ++ x :: b).length : Int) := by simp; omega
theorem splitAt (l : List α) (j : Int) (h : 0 ≤ j ∧ j < l.length) : ∃ a x b, l = a ++ x :: b ∧ (a.length : Int) = j := by
  refine ⟨l.take j.toNat, l[j.toNat]'(by omega), l.drop (j.toNat + 1), ?_, ?_⟩
  · rw [← List.drop_eq_getElem_cons, List.take_append_drop]
  · rw [List.length_take, Nat.min_eq_left (by omega)]; omega
def IsSl (v : Value) : Prop := ∃ g m cap, v = .slice (some ⟨g, 0, none⟩) m cap
theorem R.nilCheckE [Df] {P : Program} {n : Nat} {l : Fr} {C : World → Prop} {g : Bool} {d : Option Tmp} {ty : TypeId} {pos : String} {af : Array Edge} {gd : Option (Nat × Bool)} {x : Operand} {k : Nat} {v : Value} (hx : Ev n l g x (elemPtr v k)) (hv : IsSl v) :
    RunsC P n l C g ⟨d, .nilCheck x, ty, pos, af, gd⟩ (elemPtr v k) := by
  obtain ⟨b, m, cap, rfl⟩ := hv
  have hx' : Ev n l g x (.pointer (some ⟨b, 0 + k, none⟩)) := by simpa [elemPtr, add_addr] using hx
  have := R.nilCheckP (P := P) (C := C) (d := d) (ty := ty) (pos := pos) (af := af) (gd := gd) hx'
  simpa [elemPtr, add_addr] using this
theorem R.fieldE [Df] {P : Program} {n : Nat} {l : Fr} {C : World → Prop} {g : Bool} {d : Option Tmp} {ty : TypeId} {pos : String} {af : Array Edge} {gd : Option (Nat × Bool)} {x : Operand} {s f off k : Nat} {v : Value} (hf : fieldOff? P s f = some off) (hx : Ev n l g x (elemPtr v k)) (hv : IsSl v) :
    RunsC P n l C g ⟨d, .fieldAddr s x f, ty, pos, af, gd⟩ (elemPtr v (k + off)) := by
  obtain ⟨b, m, cap, rfl⟩ := hv
  have hx' : Ev n l g x (.pointer (some ⟨b, 0 + k, none⟩)) := by simpa [elemPtr, add_addr] using hx
  have := R.fieldAddr (P := P) (C := C) (d := d) (ty := ty) (pos := pos) (af := af) (gd := gd) hf hx'
  simpa [elemPtr, add_addr, Nat.add_assoc] using this
variable {P : Program} {w0 : World} {n : Nat} [Df] {S N H : Hp} {l : Fr} {ops : Array Oper} {C : World → Prop} {K : Act → World → Prop} {r : List (Bool × Nat)} {i : Nat}
theorem At.isl {X : Act → World → Prop} {v : Value} {E : TypeId} {sz m : Nat} {xs : List Value} (hm : Ent.row v E sz m xs ∈ S ++ (N ++ H)) (h0 : 0 < m) (h : IsSl v → At w0 n S l N H X) : At w0 n S l N H X :=
  At.rowForm2 hm h0 fun g cap hv _ => h ⟨g, m, cap, hv⟩
theorem At.stFld {p z : Operand} {T ty : TypeId} {pos : String} {af : Array Edge} {gd : Option (Nat × Bool)} {k : Ek α} {E : TypeId} {v : Value} (q : Nat) {a b : List α} {x : α} (y : α) {u : Value} (c : List Value) {N' H' : Hp} (ho : ops[i]? = some ⟨none, .store T p z, ty, pos, af, gd⟩)
    (hg : wantG ops l ⟨none, .store T p z, ty, pos, af, gd⟩ = some true) (hs : (P.info? T).map (·.size) = some c.length) (hp0 : Ev n l true p (elemPtr v ((a.length : Int).toNat * k.sz + q))) (hx : Ev n l true z u) (hc : u.cells = c.toArray) (hc1 : c.all (·.oneCell') = true)
    (hq : q + c.length ≤ k.sz) (hu : Up N H (rowE k E v (a ++ x :: b)) (rowE k E v (a ++ y :: b)) N' H')
    (hy : setL (k.enc x) q c = k.enc y)
    (h : Cl w0 S N' H' C ∧ At w0 n S l N' H' (wpSch P ops C K r)) : At w0 n S l N H (wpSch P ops C K ((false, i) :: r)) :=
  At.eW (d := none) ho hg fun A w ha hw => by
    have hm : rowE k E v (a ++ x :: b) ∈ N ++ H := by cases hu with | n hl => exact List.mem_append_left _ hl.mem | h hl => exact List.mem_append_right _ hl.mem
    have hrow := hw.has _ hm
    have hL : (a ++ x :: b).length = (a ++ y :: b).length := by simp
    have hla : a.length < (a ++ x :: b).length := by simp
    obtain ⟨hlen, ⟨h1, h2⟩ | ⟨g, cap', cur, rfl, hb, hgb, hnc, hcm, hcs, htake⟩⟩ := hrow
    · rw [h2] at hla; omega
    · have hp : Ev n l true p (.pointer (some ⟨g, 0 + (a.length * k.sz + q), none⟩)) := by simpa [elemPtr, add_addr] using hp0
      have hle : a.length * k.sz + k.sz ≤ (a ++ x :: b).length * k.sz := by rw [← Nat.succ_mul]; exact Nat.mul_le_mul_right _ hla
      have hcap : (a ++ x :: b).length * k.sz ≤ cap' * k.sz := Nat.mul_le_mul_right _ hnc
      obtain ⟨w', h2, h3, h4, h5, h6, h7, h8⟩ := run_storeCells P (E := E) c 0 (0 + (a.length * k.sz + q)) w cur hgb (by rw [hcs]; omega) (fun v hv => List.all_eq_true.1 hc1 v hv)
      have hrun : (execOp A.eval ⟨none, .store T p z, ty, pos, af, gd⟩).run P w = .ok .skip w' := by
        have e1 : c.toArray.size = c.length := by simp
        simp [execOp, hp rfl A ha, hx rfl A ha, Instr.storeAt, Instr.sureAddr, storeVar, run_sizeOf hs, hc, e1]
        simp only [Nat.zero_add] at h2
        rw [h2]; rfl
      unfold Oper.wp
      rw [hrun, Oper.upon_skip]
      have hown : (rowE k E (.slice (some ⟨g, 0, none⟩) (a ++ x :: b).length cap') (a ++ y :: b)).holds w' := by
        have e3 : (k.all a).length = a.length * k.sz := k.all_length a
        rw [hL] at htake hcap hle hlen hnc ⊢
        refine ⟨by rw [k.all_length], .inr ⟨g, cap', _, rfl, hb, h3, hnc, hcm, by rw [setFrom_size]; exact hcs, ?_⟩⟩
        rw [setFrom_toList, setL_take _ _ _ _ (by omega), htake, k.all_mid, k.all_mid, ← hy, Nat.zero_add, ← e3]
        exact setL_app _ _ _ _ _ (by rw [k.len]; exact hq)
      have := hw.upd hu rfl hown h4 h5 h6 (by omega) fun q' _ hq' => h8 q' fun e => hq' (by rw [e]; rfl)
      exact ⟨h.1 _ this, h.2 _ _ ha this⟩
end
end Go.Proofs.YtbolanigdkgbdaaGreat
namespace Go.Proofs.YtbolanigdkgbdaaGreat
open Go Go.RowKit
set_option linter.unusedVariables false
set_option linter.unusedSectionVars false
section
variable {P : Program} {w0 : World} {n : Nat} [Df] {S N H : Hp} {l : Fr} {ops : Array Oper} {C : World → Prop} {K : Act → World → Prop} {r : List (Bool × Nat)} {i : Nat}
theorem At.sFb {d : Nat} {o : Oper} (ho : ops[i]? = some o) (hd : o.dst = some d) (hdn : Nat.blt d n = true) (hg : wantG ops l o = some false) (hC : Cl w0 S N H C)
    (h : At w0 n S ((d, false, .bool true) :: l) N H (wpSch P ops C K r)) : At w0 n S l N H (wpSch P ops C K ((true, i) :: r)) := At.s ho hd hdn hg hC (fun h => nomatch h) h
end
theorem Cl.keptB [Df] {w0 : World} {S N H B L : Hp} (h : ∀ e ∈ L, e ∈ N) : Cl w0 S (B ++ N) H (Kept L) := Cl.kept fun e he => by
  simp only [List.mem_append]
  exact .inr (.inl (.inr (h e he)))
structure Op4 where
  kind : Int
  key : Int
  val : Int
  to_ : Int
instance : Inhabited Op4 := ⟨⟨0, 0, 0, 0⟩⟩
abbrev opK : Ek Op4 := ⟨fun x => [.int .i64 x.kind, .int .i64 x.key, .int .i64 x.val, .int .i64 x.to_], 4, fun _ => rfl, fun _ v hv => by
  simp at hv; rcases hv with rfl | rfl | rfl | rfl <;> rfl⟩
structure Th where
  next : Int
  busy : Bool
  scans : Int
  p : Option Nat
  g : Option Nat
  s : Option Nat
instance : Inhabited Th := ⟨⟨0, false, 0, none, none, none⟩⟩
abbrev thK : Ek Th := ⟨fun x => [.int .i64 x.next, .bool x.busy, .int .i64 x.scans, ptO x.p, ptO x.g, ptO x.s], 6, fun _ => rfl, fun _ v hv => by
  simp at hv; rcases hv with rfl | rfl | rfl | rfl | rfl | rfl <;> rfl⟩
structure Evt where
  thread : Int
  index : Int
  op : Op4
  beg : Int
  fin : Int
  steps : Int
  alloc : Int
  at_ : Int
  ver : Int
  an : An
  pv : SV
instance : Inhabited Evt := ⟨⟨0, 0, default, 0, 0, 0, 0, 0, 0, ⟨0, false, 0, 0, 0⟩, ⟨.slice none 0 0, rfl⟩⟩⟩
abbrev evK : Ek Evt := ⟨fun x => [.int .i64 x.thread, .int .i64 x.index, .int .i64 x.op.kind, .int .i64 x.op.key, .int .i64 x.op.val, .int .i64 x.op.to_, .int .i64 x.beg, .int .i64 x.fin, .int .i64 x.steps, .int .i64 x.alloc, .int .i64 x.at_, .int .i64 x.ver, .int .i64 x.an.code, .bool x.an.found, .int .i64 x.an.val, .int .i64 x.an.writer, .int .i64 x.an.version, x.pv.1], 18, fun _ => rfl, fun x v hv => by
  simp at hv
  rcases hv with rfl | rfl | rfl | rfl | rfl | rfl | rfl | rfl | rfl | rfl | rfl | rfl | rfl | rfl | rfl | rfl | rfl | rfl
  all_goals first | rfl | exact x.pv.2⟩
structure Ma where
  th : Int
  cap : Nat
  wd : Int
  ver : Int
  now : Int
  idle : Int
abbrev maC (Ov Pv dv : Value) (ba : Nat) (Tv Kv Ev : Value) (x : Ma) : Array Value := #[.int .i64 x.th, .int .i64 (x.cap : Int), .int .i64 x.wd, .int .i64 x.ver, Ov, Pv, dv, .pointer (some ⟨ba, 0, none⟩), Tv, .int .i64 x.now, .int .i64 x.idle, Kv, Ev]
abbrev maB (b : Nat) (Ov Pv dv : Value) (ba : Nat) (Tv Kv Ev : Value) (x : Ma) : Ent := .blk b (.cells (maC Ov Pv dv ba Tv Kv Ev x) 85)
abbrev opsRows := List (Value × List Op4)
def opsV (gs : opsRows) (t : Int) : Value := if 0 ≤ t ∧ t < gs.length then (gE gs t).1 else .slice none 0 0
def opsL (gs : opsRows) (t : Int) : List Op4 := if 0 ≤ t ∧ t < gs.length then (gE gs t).2 else []
theorem opsV_yes {gs : opsRows} {t : Int} (h : 0 ≤ t ∧ t < gs.length) : (gE gs t).1 = opsV gs t := by unfold opsV; rw [if_pos h]
theorem opsV_no {gs : opsRows} {t : Int} (h : ¬ (0 ≤ t ∧ t < gs.length)) : Value.slice none 0 0 = opsV gs t := by unfold opsV; rw [if_neg h]
theorem opsRd {C : World → Prop} {gs : opsRows} (t : Int) (h : ∀ x ∈ gs, RdIn C x.1 opK.sz x.2.length (opK.all x.2)) : RdIn C (opsV gs t) opK.sz (opsL gs t).length (opK.all (opsL gs t)) := by
  unfold opsV opsL
  split
  · rename_i h1; exact h _ (gE_mem' h1)
  · exact RdIn.nil
theorem midP {α : Type} {a b : List α} {x : α} : 0 < (a ++ x :: b).length := by simp only [List.length_append, List.length_cons]; omega
theorem Aprt.sub1 [Df] {w0 : World} {S S' N H A T : Hp} (hS : ∀ e ∈ S', e ∈ S) (h : Pick N A T) : Aprt w0 S N H S' A := fun w hw k hk hA => by
  obtain ⟨e, he, hek⟩ := List.mem_filterMap.1 hk
  exact Aprt.ofPick (S := S) h w hw k (mem_keys (hS e he) hek) hA
theorem mem1 {a : Ent} {S : Hp} (h : a ∈ S) : ∀ e ∈ [a], e ∈ S := fun e he => by rw [List.mem_singleton.1 he]; exact h
def OpM (k : Nat) (dv : Value) (l0 : List Int) (y : Th) (N : Hp) : Prop :=
  (∃ pu, y.p = some pu ∧ PuM k pu dv l0 N) ∨ (y.p = none ∧ ∃ bg, y.g = some bg ∧ GeM k bg N) ∨ (y.p = none ∧ y.g = none ∧ ∃ b, y.s = some b ∧ ScM k b N)
theorem OpM.le {k j : Nat} {dv : Value} {l0 : List Int} {y : Th} {N : Hp} (h : OpM k dv l0 y N) (hj : k ≤ j) : OpM j dv l0 y N := by
  rcases h with ⟨pu, h1, h2⟩ | ⟨h1, bg, h2, h3⟩ | ⟨h1, h2, b, h3, h4⟩
  · exact .inl ⟨pu, h1, h2.le hj⟩
  · exact .inr (.inl ⟨h1, bg, h2, h3.le hj⟩)
  · exact .inr (.inr ⟨h1, h2, b, h3, h4.le hj⟩)
inductive EvF (es : List Evt) (t i : Int) : Int → Prop
  | no : (∀ e ∈ es, ¬ (e.thread = t ∧ e.index = i)) → EvF es t i (-1)
  | yes {a b : List Evt} {e : Evt} : es = a ++ e :: b → e.thread = t → e.index = i → EvF es t i (a.length : Int)
theorem EvF.mk {es : List Evt} {t i : Int} {k : Nat} (hk : k < es.length) (h : (gE es (k : Int)).thread = t ∧ (gE es (k : Int)).index = i) : EvF es t i (k : Int) := by
  obtain ⟨a, x, b, h1, h2⟩ := splitAt es (k : Int) (by omega)
  subst h1
  have e : (k : Int) = (a.length : Int) := h2.symm
  rw [e] at h ⊢
  rw [gE_mid] at h
  exact .yes rfl h.1 h.2
theorem EvF.none {es : List Evt} {t i : Int} {k : Nat} (hk : es.length ≤ k) (h : ∀ j : Nat, j < k → ¬ ((gE es (j : Int)).thread = t ∧ (gE es (j : Int)).index = i)) : EvF es t i (-1) := .no fun e he => by
  obtain ⟨j, hj, rfl⟩ := List.getElem_of_mem he
  have := h j (by omega)
  simpa [gE, hj] using this
end Go.Proofs.YtbolanigdkgbdaaGreat
namespace Go.Proofs.YtbolanigdkgbdaaGreat
open Go Go.RowKit
set_option maxRecDepth 10000
set_option linter.unusedVariables false
set_option linter.unnecessarySimpa false
set_option linter.unusedSectionVars false
set_option maxHeartbeats 1000000
theorem fo_110_0 : fieldOff? Tryz.prog 110 0 = some 0 := by kernel_rfl
theorem fo_110_1 : fieldOff? Tryz.prog 110 1 = some 1 := by kernel_rfl
theorem fo_110_2 : fieldOff? Tryz.prog 110 2 = some 2 := by kernel_rfl
theorem fo_110_3 : fieldOff? Tryz.prog 110 3 = some 3 := by kernel_rfl
theorem fo_116_0 : fieldOff? Tryz.prog 116 0 = some 0 := by kernel_rfl
theorem fo_116_1 : fieldOff? Tryz.prog 116 1 = some 1 := by kernel_rfl
theorem fo_136_0 : fieldOff? Tryz.prog 136 0 = some 0 := by kernel_rfl
theorem fo_136_1 : fieldOff? Tryz.prog 136 1 = some 1 := by kernel_rfl
theorem fo_27_1 : fieldOff? Tryz.prog 27 1 = some 4 := by kernel_rfl
theorem fo_27_3 : fieldOff? Tryz.prog 27 3 = some 6 := by kernel_rfl
theorem fo_85_0 : fieldOff? Tryz.prog 85 0 = some 0 := by kernel_rfl
theorem fo_85_2 : fieldOff? Tryz.prog 85 2 = some 8 := by kernel_rfl
theorem fo_85_6 : fieldOff? Tryz.prog 85 6 = some 12 := by kernel_rfl
theorem sz_116 : (Tryz.prog.info? 116).map (·.size) = some 6 := by kernel_rfl
theorem sz_136 : (Tryz.prog.info? 136).map (·.size) = some 18 := by kernel_rfl
theorem sz_75 : (Tryz.prog.info? 75).map (·.size) = some 1 := by kernel_rfl
structure ConfOk (th cap wd ver : Int) : Prop where
  h_th : 1 ≤ th ∧ th ≤ 8
  h_cap : th + 2 ≤ cap ∧ cap ≤ 16
  h_ver : 1 ≤ ver ∧ ver ≤ 1048576
  h_wd : 1 ≤ wd ∧ wd ≤ 20000
  h_top : 21 + th + 3 * cap ≤ wd
theorem drNil {dv : Value} {l0 : List Int} : DrO dv l0 (.slice none 0 0) [] := fun w _ => (RdIn.nil (C := fun _ => True) w trivial : RdIs w (.slice none 0 0) zK.sz 0 [])
structure OpOk (o : Op4) : Prop where
  key : 0 ≤ o.key ∧ o.key ≤ 63
  kind : 1 ≤ o.kind ∧ o.kind ≤ 4
  val : 0 ≤ o.val ∧ o.val ≤ 1048576
  to_ : 0 ≤ o.to_ ∧ o.to_ ≤ 63
theorem r_key {k : Int} : Fn Tryz.prog 95 [.int .i64 k] ([]) ([]) (IsV (.bool (decide (0 ≤ k) && decide (k ≤ 63)))) := by
 refine Fn.enter Tryz.func95 (by kernel_rfl) rfl (n := 9) rfl rfl (fun w => ?_)
 refine Z ?_
 exact fT rfl (.t rfl) (⟨rfl, rfl, rfl⟩)
theorem r_WriterOf {t i : Int} (h1 : 0 ≤ t ∧ t < 8) (h2 : 0 ≤ i ∧ i < 1000) : Fn Tryz.prog 97 [.int .i64 t, .int .i64 i] ([]) ([]) (IsV (.int .i64 (t * 1000 + i))) := by
 refine Fn.enter Tryz.func97 (by kernel_rfl) rfl (n := 23) rfl rfl (fun w => ?_)
 refine W ?_
 refine eA rfl (R.as (R.lss (.t rfl) .c) dF) ?_
 refine W ?_
 refine eA rfl (R.as (R.geq (.t rfl) .c) dF) ?_
 refine W ?_
 refine eA rfl (R.as (R.lss (.t rfl) .c) dF) ?_
 refine W ?_
 refine eA rfl (R.as (R.geq (.t rfl) .c) dF) ?_
 refine W ?_
 exact fT rfl (.t rfl) (⟨rfl, rfl, rfl⟩)
theorem r_Of {w : Int} (h1 : 0 ≤ w ∧ w < 8000) : Fn Tryz.prog 108 [.int .i64 w] ([]) ([]) (IsV (.tuple #[.int .i64 (w / 1000), .int .i64 (w % 1000)])) := by
 refine Fn.enter Tryz.func108 (by kernel_rfl) rfl (n := 14) rfl rfl (fun w => ?_)
 refine W ?_
 refine eA rfl (R.as (R.lss (.t rfl) .c) dF) ?_
 refine W ?_
 refine eA rfl (R.as (R.geq (.t rfl) .c) dF) ?_
 refine W ?_
 refine eA rfl (R.quoI (.t rfl) .c gO) ?_
 refine W ?_
 refine eA rfl (R.remI (.t rfl) .c gO) ?_
 refine W ?_
 exact At.final2 rfl (.t rfl) (.t rfl) (List.nil_sublist _) (⟨rfl, rfl, rfl⟩)
theorem r_OfE {w : Int} : Fn Tryz.prog 108 [.int .i64 w] ([]) ([]) (fun v N H => (∃ a b, v = .tuple #[.int .i64 a, .int .i64 b]) ∧ N = [] ∧ H = []) := by
 refine Fn.enter Tryz.func108 (by kernel_rfl) rfl (n := 14) rfl rfl (fun w => ?_)
 refine Z ?_
 refine At.cond (.t rfl) (fun c1 => ?_) (fun c1 => ?_)
 ·
  refine W ?_
  exact At.final2 rfl (.t rfl) (.t rfl) (List.nil_sublist _) (⟨⟨_, _, rfl⟩, rfl, rfl⟩)
 ·
  simp at c1
  refine W ?_
  refine eA rfl (R.quoI (.t rfl) .c gO) ?_
  refine W ?_
  refine eA rfl (R.remI (.t rfl) .c gO) ?_
  refine W ?_
  exact At.final2 rfl (.t rfl) (.t rfl) (List.nil_sublist _) (⟨⟨_, _, rfl⟩, rfl, rfl⟩)
theorem r_IsConf {th cap wd ver : Int} : Fn Tryz.prog 71 [.agg #[.int .i64 th, .int .i64 cap, .int .i64 wd, .int .i64 ver]] ([]) ([]) (fun v N H => (∃ e, v = .int .i64 e ∧ (e = 0 → ConfOk th cap wd ver)) ∧ N = [] ∧ H = []) := by
 refine Fn.enter Tryz.func71 (by kernel_rfl) rfl (n := 49) rfl rfl (fun w => ?_)
 refine W ?_
 refine At.box rfl rfl rfl (.t rfl) (fun b1 hb1 => ⟨.all, ?_⟩)
 refine U ?_
 refine eA rfl (R.lss (.t rfl) .c) ?_
 refine U ?_
 refine eA rfl (R.gtr (.s rfl) .c) ?_
 refine eA rfl (R.pickOr (.t rfl) rfl (by (intro hg h; rw [h]; rfl))) ?_
 refine U ?_
 refine eA rfl (R.addI (.s rfl) .c (fun hg => by (simp [-List.length_eq_zero_iff] at hg; omega))) ?_
 refine eA rfl (R.lss (.s rfl) (.s rfl)) ?_
 refine eA rfl (R.pickOr (.t rfl) rfl (by (intro hg h; rw [h]; rfl))) ?_
 refine U ?_
 refine eA rfl (R.gtr (.s rfl) .c) ?_
 refine eA rfl (R.pickOr (.t rfl) rfl (by (intro hg h; rw [h]; rfl))) ?_
 refine U ?_
 refine eA rfl (R.lss (.s rfl) .c) ?_
 refine eA rfl (R.pickOr (.t rfl) rfl (by (intro hg h; rw [h]; rfl))) ?_
 refine U ?_
 refine eA rfl (R.gtr (.s rfl) .c) ?_
 refine eA rfl (R.pickOr (.t rfl) rfl (by (intro hg h; rw [h]; rfl))) ?_
 refine U ?_
 refine eA rfl (R.lss (.s rfl) .c) ?_
 refine eA rfl (R.pickOr (.t rfl) rfl (by (intro hg h; rw [h]; rfl))) ?_
 refine U ?_
 refine eA rfl (R.gtr (.s rfl) .c) ?_
 refine eA rfl (R.pickOr (.t rfl) rfl (by (intro hg h; rw [h]; rfl))) ?_
 refine U ?_
 refine At.cond (.t rfl) (fun c1 => ?_) (fun c1 => ?_)
 ·
  refine W ?_
  exact fT rfl (.t rfl) (⟨⟨_, rfl, fun h => by (exact absurd h (by decide))⟩, rfl, rfl⟩)
 ·
  simp at c1
  refine W ?_
  refine At.drawK [tt 0, tt 2, tt 3, ff 1, tt 4] (by kernel_rfl) (by kernel_rfl) ?_
  refine W ?_
  refine At.callVR rfl rfl rfl (.k rfl .nil) (.nil) (fun hg => r_Top (by omega) (by omega)) kI ?_
  refine Z ?_
  refine At.condD (.t rfl) (fun c2 => ?_) (fun c2 => ?_)
  ·
   refine W ?_
   exact fT rfl (.t rfl) (⟨⟨_, rfl, fun h => by (exact absurd h (by decide))⟩, rfl, rfl⟩)
  ·
   refine W ?_
   exact fT rfl (.t rfl) (⟨⟨_, rfl, fun h => by exact ⟨by omega, by omega, by omega, by omega, by omega⟩⟩, rfl, rfl⟩)
theorem r_IsOp {o : Op4} : Fn Tryz.prog 72 [.agg #[.int .i64 o.kind, .int .i64 o.key, .int .i64 o.val, .int .i64 o.to_]] ([]) ([]) (fun v N H => (∃ e : Bool, v = .bool e ∧ (e = true → OpOk o)) ∧ N = [] ∧ H = []) := by
 refine Fn.enter Tryz.func72 (by kernel_rfl) rfl (n := 56) rfl rfl (fun w => ?_)
 refine W ?_
 refine At.box rfl rfl rfl (.t rfl) (fun b1 hb1 => ⟨.all, ?_⟩)
 refine Z ?_
 refine At.condD (.t rfl) (fun c1 => ?_) (fun c1 => ?_)
 ·
  refine W ?_
  refine At.callVR rfl rfl rfl (.k rfl .nil) (.nil) (fun hg => r_key) .all ?_
  refine Z ?_
  exact fT rfl (.t rfl) (⟨⟨_, rfl, fun h => by ((try simp at h); (try simp at c1); exact ⟨by omega, by omega, by omega, by omega⟩)⟩, rfl, rfl⟩)
 ·
  refine Z ?_
  refine At.condD (.t rfl) (fun c2 => ?_) (fun c2 => ?_)
  ·
   refine W ?_
   refine At.condD (.t rfl) (fun c3 => ?_) (fun c3 => ?_)
   ·
    refine W ?_
    refine At.callVR rfl rfl rfl (.k rfl .nil) (.nil) (fun hg => r_key) .all ?_
    refine Z ?_
    exact fT rfl (.t rfl) (⟨⟨_, rfl, fun h => by ((try simp at h); (try simp at c1); exact ⟨by omega, by omega, by omega, by omega⟩)⟩, rfl, rfl⟩)
   ·
    refine At.seq ?_
    refine At.plain [ff 0, ff 1] rfl ?_
    refine eA rfl (R.as (R.eql (.t rfl) .c) dT) ?_
    refine eA rfl (R.assign (.t rfl)) ?_
    refine At.nil ?_
    refine At.tN ?_
    refine At.cond (.t rfl) (fun c4 => ?_) (fun c4 => ?_)
    ·
     refine W ?_
     refine At.callVR rfl rfl rfl (.k rfl .nil) (.nil) (fun hg => r_key) .all ?_
     refine W ?_
     refine At.callVR rfl rfl rfl (.cons (.s rfl) .nil) (.nil) (fun hg => r_key) .all ?_
     refine W ?_
     refine eA rfl (R.as (R.eql (.s rfl) .c) dT) ?_
     refine W ?_
     exact fT rfl (.t rfl) (⟨⟨_, rfl, fun h => by ((try simp at h); (try simp at c1); exact ⟨by omega, by omega, by omega, by omega⟩)⟩, rfl, rfl⟩)
    ·
     refine W ?_
     exact fT rfl (.t rfl) (⟨⟨_, rfl, fun h => by (exact absurd h (by decide))⟩, rfl, rfl⟩)
  ·
   refine Z ?_
   refine At.condD (.t rfl) (fun c5 => ?_) (fun c5 => ?_)
   ·
    refine W ?_
    refine At.callVR rfl rfl rfl (.k rfl .nil) (.nil) (fun hg => r_key) .all ?_
    refine Z ?_
    exact fT rfl (.t rfl) (⟨⟨_, rfl, fun h => by ((try simp at h); (try simp at c1); exact ⟨by omega, by omega, by omega, by omega⟩)⟩, rfl, rfl⟩)
   ·
    refine Z ?_
    refine At.condD (.t rfl) (fun c6 => ?_) (fun c6 => ?_)
    ·
     refine W ?_
     refine At.callVR rfl rfl rfl (.k rfl .nil) (.nil) (fun hg => r_key) .all ?_
     refine W ?_
     refine At.callVR rfl rfl rfl (.cons (.s rfl) .nil) (.nil) (fun hg => r_key) .all ?_
     refine Z ?_
     exact fT rfl (.t rfl) (⟨⟨_, rfl, fun h => by ((try simp at h); (try simp at c1); exact ⟨by omega, by omega, by omega, by omega⟩)⟩, rfl, rfl⟩)
    ·
     refine W ?_
     exact fT rfl (.t rfl) (⟨⟨_, rfl, fun h => by (exact absurd h (by decide))⟩, rfl, rfl⟩)
theorem ma_ops {mb ba : Nat} {Ov Pv dv Tv Kv Gv : Value} {x : Ma} {gs : opsRows} {t : Int} (hg : gs.length ≤ 1000) : Fn Tryz.prog 89 [.pointer (some ⟨mb, 0, none⟩), .int .i64 t] (maB mb Ov Pv dv ba Tv Kv Gv x :: nest opK Ov gs) ([]) (IsV (opsV gs t)) := by
 refine Fn.enter Tryz.func89 (by kernel_rfl) rfl (n := 25) rfl rfl (fun w => ?_)
 have hG : ∀ y ∈ gs, rdE opK y.1 y.2 ∈ maB mb Ov Pv dv ba Tv Kv Gv x :: nest opK Ov gs := fun y hy => .tail _ (.tail _ ((List.mem_map.2 ⟨y, hy, rfl⟩)))
 refine Z ?_
 refine At.cond (.t rfl) (fun c1 => ?_) (fun c1 => ?_)
 ·
  refine W ?_
  exact fT rfl (.t rfl) (⟨opsV_no (by simp at c1; omega), rfl, rfl⟩)
 ·
  simp at c1
  refine U ?_
  refine eA rfl (R.indexRd Tryz.underlying24 sz_75 (.t rfl) (rS M1) (.t rfl) gO) ?_
  refine eA rfl (R.loadRd Tryz.underlying75 rfl (.t rfl) (rS M1) (fun hg => by exact nestGet (by omega))) ?_
  refine U ?_
  exact fT rfl (.t rfl) (⟨opsV_yes (by omega), rfl, rfl⟩)
theorem ov_Neg {mb ba : Nat} {Ov Pv dv Tv Kv Gv : Value} {x : Ma} {gs : opsRows} {ts : List Th} {t : Int} (hgl : gs.length ≤ 1000) (htl : ts.length ≤ 1000) (h : t < 0) : Fn Tryz.prog 60 [.pointer (some ⟨mb, 0, none⟩), .int .i64 t] (maB mb Ov Pv dv ba Tv Kv Gv x :: rdE thK Tv ts :: nest opK Ov gs) ([]) (IsV (.bool true)) := by
 refine Fn.enter Tryz.func60 (by kernel_rfl) rfl (n := 42) rfl rfl (fun w => ?_)
 have hG : ∀ y ∈ gs, rdE opK y.1 y.2 ∈ maB mb Ov Pv dv ba Tv Kv Gv x :: rdE thK Tv ts :: nest opK Ov gs := fun y hy => .tail _ (.tail _ (.tail _ ((List.mem_map.2 ⟨y, hy, rfl⟩))))
 refine W ?_
 refine At.drawK [tt 0, tt 1, tt 2, tt 3, tt 4, tt 5, tt 6, tt 7, tt 8, tt 9, tt 10, tt 11, tt 12, tt 13, tt 14, tt 15, tt 16, tt 17, tt 18, tt 19, tt 20, tt 21, tt 22, tt 23, tt 24, tt 25, tt 26, tt 27, tt 28, tt 29, tt 30, tt 31, ff 32, tt 33, tt 34, tt 35, tt 36, tt 37] (by kernel_rfl) (by kernel_rfl) ?_
 refine sJ rfl (R.move (.t rfl)) ?_
 refine sJ rfl (R.as (R.lss (.t rfl) .c) dT) ?_
 refine sJ rfl (R.move (.t rfl)) ?_
 refine At.sF rfl rfl rfl rfl kI ?_
 refine At.sF rfl rfl rfl rfl (Cl.kept fun _ h => h) ?_
 refine At.sF rfl rfl rfl rfl (Cl.kept fun _ h => h) ?_
 refine At.sF rfl rfl rfl rfl kI ?_
 refine At.sF rfl rfl rfl rfl kI ?_
 refine At.sF rfl rfl rfl rfl kI ?_
 refine At.sFb rfl rfl rfl rfl kI ?_
 refine sJ rfl (R.pickT (.t rfl) .c) ?_
 refine sJ rfl (R.move (.t rfl)) ?_
 refine At.sF rfl rfl rfl rfl kI ?_
 refine At.sF rfl rfl rfl rfl kI ?_
 refine At.sF rfl rfl rfl rfl kI ?_
 refine At.sF rfl rfl rfl rfl kI ?_
 refine At.sF rfl rfl rfl rfl kI ?_
 refine At.sF rfl rfl rfl rfl (Cl.kept fun _ h => h) ?_
 refine At.sF rfl rfl rfl rfl kI ?_
 refine At.sFb rfl rfl rfl rfl kI ?_
 refine At.sFb rfl rfl rfl rfl kI ?_
 refine At.sFb rfl rfl rfl rfl kI ?_
 refine At.sF rfl rfl rfl rfl kI ?_
 refine At.sF rfl rfl rfl rfl kI ?_
 refine At.sF rfl rfl rfl rfl kI ?_
 refine At.sF rfl rfl rfl rfl kI ?_
 refine At.sF rfl rfl rfl rfl kI ?_
 refine At.sF rfl rfl rfl rfl kI ?_
 refine At.sF rfl rfl rfl rfl kI ?_
 refine At.sF rfl rfl rfl rfl kI ?_
 refine At.sF rfl rfl rfl rfl kI ?_
 refine At.sF rfl rfl rfl rfl kI ?_
 refine At.eF rfl rfl rfl rfl kI ?_
 refine At.sF rfl rfl rfl rfl kI ?_
 refine At.sFb rfl rfl rfl rfl kI ?_
 refine At.sFb rfl rfl rfl rfl kI ?_
 refine W ?_
 exact fT rfl (.t rfl) (⟨rfl, rfl, rfl⟩)
theorem ov_Big {mb ba : Nat} {Ov Pv dv Tv Kv Gv : Value} {x : Ma} {gs : opsRows} {ts : List Th} {t : Int} (hgl : gs.length ≤ 1000) (htl : ts.length ≤ 1000) (h : 0 ≤ t ∧ (ts.length : Int) ≤ t) : Fn Tryz.prog 60 [.pointer (some ⟨mb, 0, none⟩), .int .i64 t] (maB mb Ov Pv dv ba Tv Kv Gv x :: rdE thK Tv ts :: nest opK Ov gs) ([]) (IsV (.bool true)) := by
 refine Fn.enter Tryz.func60 (by kernel_rfl) rfl (n := 42) rfl rfl (fun w => ?_)
 have hG : ∀ y ∈ gs, rdE opK y.1 y.2 ∈ maB mb Ov Pv dv ba Tv Kv Gv x :: rdE thK Tv ts :: nest opK Ov gs := fun y hy => .tail _ (.tail _ (.tail _ ((List.mem_map.2 ⟨y, hy, rfl⟩))))
 refine W ?_
 refine At.drawK [tt 0, tt 1, tt 2, tt 3, tt 4, tt 5, tt 6, tt 7, tt 8, tt 9, tt 10, tt 11, tt 12, tt 13, tt 14, tt 15, tt 16, tt 17, tt 18, tt 19, tt 20, tt 21, tt 22, tt 23, tt 24, tt 25, tt 26, tt 27, tt 28, tt 29, tt 30, tt 31, ff 32, tt 33, tt 34, tt 35, tt 36, tt 37] (by kernel_rfl) (by kernel_rfl) ?_
 refine sJ rfl (R.move (.t rfl)) ?_
 refine sJ rfl (R.as (R.lss (.t rfl) .c) dF) ?_
 refine sJ rfl (R.move (.t rfl)) ?_
 refine sJ rfl (R.move (.t rfl)) ?_
 refine sJ rfl (R.move (.t rfl)) ?_
 refine sJ rfl (R.nilCheckP (.t rfl)) ?_
 refine sJ rfl (R.fieldAddr fo_85_2 (.t rfl)) ?_
 refine sJ rfl (R.load Tryz.underlying82 rfl (.t rfl) (cK M0 rfl)) ?_
 refine sJ rfl (R.lenRd Tryz.underlying82 (.t rfl) (rK M1)) ?_
 refine sJ rfl (R.as (R.geq (.t rfl) (.t rfl)) dT) ?_
 refine sJ rfl (R.pickF (.t rfl) (.t rfl)) ?_
 refine sJ rfl (R.move (.t rfl)) ?_
 refine At.sF rfl rfl rfl rfl kI ?_
 refine At.sF rfl rfl rfl rfl kI ?_
 refine At.sF rfl rfl rfl rfl kI ?_
 refine At.sF rfl rfl rfl rfl kI ?_
 refine At.sF rfl rfl rfl rfl kI ?_
 refine At.sF rfl rfl rfl rfl (Cl.kept fun _ h => h) ?_
 refine At.sF rfl rfl rfl rfl kI ?_
 refine At.sFb rfl rfl rfl rfl kI ?_
 refine At.sFb rfl rfl rfl rfl kI ?_
 refine At.sFb rfl rfl rfl rfl kI ?_
 refine At.sF rfl rfl rfl rfl kI ?_
 refine At.sF rfl rfl rfl rfl kI ?_
 refine At.sF rfl rfl rfl rfl kI ?_
 refine At.sF rfl rfl rfl rfl kI ?_
 refine At.sF rfl rfl rfl rfl kI ?_
 refine At.sF rfl rfl rfl rfl kI ?_
 refine At.sF rfl rfl rfl rfl kI ?_
 refine At.sF rfl rfl rfl rfl kI ?_
 refine At.sF rfl rfl rfl rfl kI ?_
 refine At.sF rfl rfl rfl rfl kI ?_
 refine At.eF rfl rfl rfl rfl kI ?_
 refine At.sF rfl rfl rfl rfl kI ?_
 refine At.sFb rfl rfl rfl rfl kI ?_
 refine At.sFb rfl rfl rfl rfl kI ?_
 refine W ?_
 exact fT rfl (.t rfl) (⟨rfl, rfl, rfl⟩)
theorem ov_Busy {mb ba : Nat} {Ov Pv dv Tv Kv Gv : Value} {x : Ma} {gs : opsRows} {ts : List Th} {t : Int} (hgl : gs.length ≤ 1000) (htl : ts.length ≤ 1000) (h : 0 ≤ t ∧ t < ts.length) (hb : (gE ts t).busy = true) : Fn Tryz.prog 60 [.pointer (some ⟨mb, 0, none⟩), .int .i64 t] (maB mb Ov Pv dv ba Tv Kv Gv x :: rdE thK Tv ts :: nest opK Ov gs) ([]) (IsV (.bool false)) := by
 refine Fn.enter Tryz.func60 (by kernel_rfl) rfl (n := 42) rfl rfl (fun w => ?_)
 have hG : ∀ y ∈ gs, rdE opK y.1 y.2 ∈ maB mb Ov Pv dv ba Tv Kv Gv x :: rdE thK Tv ts :: nest opK Ov gs := fun y hy => .tail _ (.tail _ (.tail _ ((List.mem_map.2 ⟨y, hy, rfl⟩))))
 refine W ?_
 refine At.drawK [tt 0, tt 1, tt 2, tt 3, tt 4, tt 5, tt 6, tt 7, tt 8, tt 9, tt 10, tt 11, tt 12, tt 13, tt 14, tt 15, tt 16, tt 17, tt 18, tt 19, tt 20, tt 21, tt 22, tt 23, tt 24, tt 25, tt 26, tt 27, tt 28, tt 29, tt 30, tt 31, ff 32, tt 33, tt 34, tt 35, tt 36, tt 37] (by kernel_rfl) (by kernel_rfl) ?_
 refine U ?_
 refine sJ rfl (R.as (R.lss (.t rfl) .c) dF) ?_
 refine U ?_
 refine sJ rfl (R.lenRd Tryz.underlying82 (.t rfl) (rK M1)) ?_
 refine sJ rfl (R.as (R.geq (.t rfl) (.t rfl)) dF) ?_
 refine U ?_
 refine sJ rfl (R.indexRd Tryz.underlying82 sz_116 (.t rfl) (rK M1) (.t rfl) gO) ?_
 refine sJ rfl (R.fieldRd fo_116_1 (.t rfl) (rK M1) gO) ?_
 refine At.s rfl rfl rfl rfl (Cl.kept fun _ h => h) (R.as (R.loadRd Tryz.underlying4 rfl (by exact .t rfl) (by exact rK M1) (fun hg => by exact Ek.getN rfl (by omega))) (fun _ => congrArg Value.bool hb)) ?_
 refine sJ rfl (R.not (.t rfl)) ?_
 refine sJ rfl (R.move (.t rfl)) ?_
 refine At.sF rfl rfl rfl rfl (Cl.kept fun _ h => h) ?_
 refine At.sF rfl rfl rfl rfl kI ?_
 refine At.sF rfl rfl rfl rfl kI ?_
 refine At.sF rfl rfl rfl rfl kI ?_
 refine At.sF rfl rfl rfl rfl kI ?_
 refine At.sF rfl rfl rfl rfl (Cl.kept fun _ h => h) ?_
 refine At.sF rfl rfl rfl rfl kI ?_
 refine At.sF rfl rfl rfl rfl kI ?_
 refine At.sF rfl rfl rfl rfl kI ?_
 refine At.sF rfl rfl rfl rfl kI ?_
 refine At.eF rfl rfl rfl rfl kI ?_
 refine At.sF rfl rfl rfl rfl kI ?_
 refine At.sFb rfl rfl rfl rfl kI ?_
 refine W ?_
 exact fT rfl (.t rfl) (⟨rfl, rfl, rfl⟩)
theorem ov_Idle {mb ba : Nat} {Ov Pv dv Tv Kv Gv : Value} {x : Ma} {gs : opsRows} {ts : List Th} {t : Int} (hgl : gs.length ≤ 1000) (htl : ts.length ≤ 1000) (h : 0 ≤ t ∧ t < ts.length) (hb : (gE ts t).busy = false) : Fn Tryz.prog 60 [.pointer (some ⟨mb, 0, none⟩), .int .i64 t] (maB mb Ov Pv dv ba Tv Kv Gv x :: rdE thK Tv ts :: nest opK Ov gs) ([]) (IsV (.bool (decide (((opsL gs t).length : Int) ≤ (gE ts t).next)))) := by
 refine Fn.enter Tryz.func60 (by kernel_rfl) rfl (n := 42) rfl rfl (fun w => ?_)
 have hG : ∀ y ∈ gs, rdE opK y.1 y.2 ∈ maB mb Ov Pv dv ba Tv Kv Gv x :: rdE thK Tv ts :: nest opK Ov gs := fun y hy => .tail _ (.tail _ (.tail _ ((List.mem_map.2 ⟨y, hy, rfl⟩))))
 refine W ?_
 refine At.drawK [tt 0, tt 1, tt 2, tt 3, tt 4, tt 5, tt 6, tt 7, tt 8, tt 9, tt 10, tt 11, tt 12, tt 13, tt 14, tt 15, tt 16, tt 17, tt 18, tt 19, tt 20, tt 21, tt 22, tt 23, tt 24, tt 25, tt 26, tt 27, tt 28, tt 29, tt 30, tt 31, ff 32, tt 33, tt 34, tt 35, tt 36, tt 37] (by kernel_rfl) (by kernel_rfl) ?_
 refine U ?_
 refine sJ rfl (R.as (R.lss (.t rfl) .c) dF) ?_
 refine U ?_
 refine sJ rfl (R.lenRd Tryz.underlying82 (.t rfl) (rK M1)) ?_
 refine sJ rfl (R.as (R.geq (.t rfl) (.t rfl)) dF) ?_
 refine U ?_
 refine sJ rfl (R.indexRd Tryz.underlying82 sz_116 (.t rfl) (rK M1) (.t rfl) gO) ?_
 refine sJ rfl (R.fieldRd fo_116_1 (.t rfl) (rK M1) gO) ?_
 refine At.s rfl rfl rfl rfl (Cl.kept fun _ h => h) (R.as (R.loadRd Tryz.underlying4 rfl (by exact .t rfl) (by exact rK M1) (fun hg => by exact Ek.getN rfl (by omega))) (fun _ => congrArg Value.bool hb)) ?_
 refine Z ?_
 refine At.callVR rfl rfl rfl (.k rfl (.k rfl .nil)) (.blk (.st M0) (.ofNest (rS M2) (fun y hy => rS (by simp only [List.mem_append]; exact .inl (hG y hy))))) (fun hg => ma_ops (t := t) (gs := gs) hgl) kI ?_
 refine sJ rfl (R.lenRd Tryz.underlying75 (.t rfl) (opsRd t (fun y hy => rK (by simp only [List.mem_append]; exact .inl (hG y hy))))) ?_
 refine Z ?_
 exact fT rfl (.t rfl) (⟨rfl, rfl, rfl⟩)
theorem ma_event {mb ba : Nat} {Ov Pv dv Tv Kv Gv : Value} {x : Ma} {es : List Evt} {t j : Int} (hl : es.length ≤ 1000000) : Fn Tryz.prog 76 [.pointer (some ⟨mb, 0, none⟩), .int .i64 t, .int .i64 j] ([maB mb Ov Pv dv ba Tv Kv Gv x, rdE evK Gv es]) ([]) (fun v N H => (∃ k, v = .int .i64 k ∧ EvF es t j k) ∧ N = [] ∧ H = []) := by
 refine Fn.enter Tryz.func76 (by kernel_rfl) rfl (n := 40) rfl rfl (fun w => ?_)
 refine W ?_
 refine At.loop1 (fun (i : Nat) => i ≤ es.length ∧ ∀ q : Nat, q < i → ¬ ((gE es (q : Int)).thread = t ∧ (gE es (q : Int)).index = j)) (fun (i : Nat) => es.length - i) (fun (i : Nat) => [(0, true, .pointer (some ⟨mb, 0, none⟩)), (1, true, .int .i64 t), (2, true, .int .i64 j), (7, true, .int .i64 i)]) (fun (i : Nat) => []) (fun (i : Nat) => []) (0) ⟨Nat.zero_le _, fun q hq => absurd hq (Nat.not_lt_zero _)⟩ (.cons rfl (.cons rfl (.cons rfl (.cons rfl .nil)))) (List.Sublist.refl _) rfl (fun i hi => ?_)
 obtain ⟨hi1, hi2⟩ := hi
 refine Z ?_
 refine At.condD (.t rfl) (fun c1 => ?_) (fun c1 => ?_)
 ·
  refine U ?_
  refine eA rfl (R.indexRd Tryz.underlying83 sz_136 (.t rfl) (rS M1) (.t rfl) gO) ?_
  refine eA rfl (R.fieldRd fo_136_0 (.t rfl) (rS M1) gO) ?_
  refine eA rfl (R.loadRd Tryz.underlying3 rfl (.t rfl) (rS M1) (fun hg => by exact Ek.getN rfl (by omega))) ?_
  refine U ?_
  refine eA rfl (R.eql (.t rfl) (.t rfl)) ?_
  refine U ?_
  refine eA rfl (R.indexRd Tryz.underlying83 sz_136 (.s rfl) (rS M1) (.s rfl) gO) ?_
  refine eA rfl (R.fieldRd fo_136_1 (.s rfl) (rS M1) gO) ?_
  refine eA rfl (R.loadRd Tryz.underlying3 rfl (.s rfl) (rS M1) (fun hg => by exact Ek.getN rfl (by omega))) ?_
  refine U ?_
  refine eA rfl (R.eql (.s rfl) (.s rfl)) ?_
  refine eA rfl (R.pickAnd (.t rfl) rfl (by (intro hg h; rw [h]; rfl))) ?_
  refine U ?_
  refine At.cond (.t rfl) (fun c2 => ?_) (fun c2 => ?_)
  ·
   refine W ?_
   exact fT rfl (.t rfl) (⟨⟨_, rfl, EvF.mk (k := i) (by omega) (by simpa using c2)⟩, rfl, rfl⟩)
  ·
   refine W ?_
   exact At.again1 (i + 1) ⟨by omega, fun q hq => (by rcases Nat.lt_succ_iff_lt_or_eq.1 hq with h | h; exact hi2 q h; subst h; simpa using c2)⟩ (by omega) (.cons rfl (.cons rfl (.cons rfl (.cons rfl .nil)))) (List.Sublist.refl _) rfl
 ·
  refine W ?_
  exact fT rfl (.t rfl) (⟨⟨_, rfl, EvF.none (k := i) (by omega) hi2⟩, rfl, rfl⟩)
theorem ma_draws {mb ba : Nat} {Ov Pv dv Tv Kv Gv : Value} {x : Ma} {l0 : List Int} {wr : Int} (hw : 0 ≤ wr ∧ wr < 8000) (hl : l0.length ≤ 1000000000) : Fn Tryz.prog 100 [.pointer (some ⟨mb, 0, none⟩), .int .i64 wr] ([maB mb Ov Pv dv ba Tv Kv Gv x, rdE zK dv l0]) ([]) (fun v N H => (∃ l, DrO dv l0 v l) ∧ N = [] ∧ H = []) := by
 refine Fn.enter Tryz.func100 (by kernel_rfl) rfl (n := 33) rfl rfl (fun w => ?_)
 refine W ?_
 refine At.callVR rfl rfl rfl (.k rfl .nil) (.nil) (fun hg => r_Of hw) .all ?_
 refine Z ?_
 refine At.condD (.t rfl) (fun c1 => ?_) (fun c1 => ?_)
 ·
  refine W ?_
  exact fT rfl (.t rfl) (⟨⟨_, drNil⟩, rfl, rfl⟩)
 ·
  have hlp : 0 < (l0.length : Int) := (by have h9 : ¬ ((l0.length : Int) = 0) := (by simpa using c1); omega); have hq := Int.emod_lt_of_pos (wr % 1000) hlp; have hq0 := Int.emod_nonneg (wr % 1000) (b := (l0.length : Int)) (by omega)
  refine W ?_
  refine At.drawK [tt 0, tt 1, tt 2, tt 3, tt 4, tt 5, tt 6, tt 7, tt 8, tt 9, tt 10, tt 11, tt 12, tt 13, tt 14] (by kernel_rfl) (by kernel_rfl) ?_
  refine W ?_
  refine sJ rfl (R.as (R.remI (.t rfl) (.t rfl) gO) (fun _ => congrArg (Value.int .i64) ((Int.toNat_of_nonneg hq0).symm : _ = ((wr % 1000 % (l0.length : Int)).toNat : Int)))) ?_
  refine sJ rfl (R.sliceRd Tryz.underlying25 sz_3 (.t rfl) (rK M1) (.t rfl) rfl gO) ?_
  refine W ?_
  exact fT rfl (.t rfl) (⟨⟨_, DrO.cut DrO.refl _ (by omega)⟩, rfl, rfl⟩)
end Go.Proofs.YtbolanigdkgbdaaGreat
namespace Go.Proofs.YtbolanigdkgbdaaGreat
open Go Go.RowKit
set_option maxRecDepth 10000
set_option linter.unusedVariables false
set_option linter.unnecessarySimpa false
set_option linter.unusedSectionVars false
set_option maxHeartbeats 1000000
theorem bt_59 : buildTab Tryz.prog 59 = some (#[.slice none 0 0, .int .i64 0, .int .i64 0, .int .i64 0, .int .i64 0, .int .i64 0, .bool false], [(0, 1), (1, 1), (2, 5)]) := by kernel_rfl
theorem fo_27_0 : fieldOff? Tryz.prog 27 0 = some 0 := by kernel_rfl
theorem fo_27_2 : fieldOff? Tryz.prog 27 2 = some 5 := by kernel_rfl
theorem sz_110 : (Tryz.prog.info? 110).map (·.size) = some 4 := by kernel_rfl
theorem ze_3 : (Tryz.prog.info? 3).bind (·.zero) = some (.int .i64 0) := by kernel_rfl
theorem allE {α : Type} [Inhabited α] {l : List α} {P : α → Prop} (h : ∀ j : Nat, j < l.length → P (gE l (j : Int))) : ∀ x ∈ l, P x := fun x hx => by
  obtain ⟨j, hj, rfl⟩ := List.getElem_of_mem hx
  have := h j hj
  simpa [gE, hj] using this
structure ScOk (th cap wd ver : Int) (gs : opsRows) (ps : List Int) : Prop where
  conf : ConfOk th cap wd ver
  gl : (gs.length : Int) ≤ th
  pl : ps.length ≤ 20000
  ol : ∀ y ∈ gs, y.2.length ≤ 1000
  oo : ∀ y ∈ gs, ∀ o ∈ y.2, OpOk o
def rN0 (n : Nat) : Rr := ⟨List.replicate n 0, 0, 0, 0, 0, 0, false⟩
theorem rN0_okk {n : Nat} : (rN0 n).okk n 0 := ⟨List.length_replicate, fun x hx => by rw [(List.mem_replicate.1 hx).2]; unfold MB; omega, by show (0 : Int) ≤ 0 ∧ (0 : Int) ≤ 0; decide⟩
theorem Rr.okk.poke {n k : Nat} {r : Rr} (h : r.okk n k) {i x : Int} (hx : Bd k x) : (r.poke i x).okk n k := ⟨(Rr.poke_len _ _ _).trans h.len, Rr.poke_mid h.mid hx, by rw [Rr.poke_n]; exact h.cnt⟩
theorem r_IsScript {th cap wd ver : Int} {Ov Pv dv : Value} {gs : opsRows} {ps l0 : List Int} (hgb : gs.length ≤ 1000000000) (hpb : ps.length ≤ 1000000000) (hob : ∀ y ∈ gs, y.2.length ≤ 1000000000)  : Fn Tryz.prog 39 [.agg #[.int .i64 th, .int .i64 cap, .int .i64 wd, .int .i64 ver, Ov, Pv, dv]] (rdE zK dv l0 :: rdE zK Pv ps :: nest opK Ov gs) ([]) (fun v N H => (∃ e, v = .int .i64 e ∧ (e = 0 → ScOk th cap wd ver gs ps)) ∧ N = [] ∧ H = []) := by
 refine Fn.enter Tryz.func39 (by kernel_rfl) rfl (n := 67) rfl rfl (fun w => ?_)
 have hG : ∀ y ∈ gs, rdE opK y.1 y.2 ∈ rdE zK dv l0 :: rdE zK Pv ps :: nest opK Ov gs := fun y hy => .tail _ (.tail _ (.tail _ ((List.mem_map.2 ⟨y, hy, rfl⟩))))
 have hgo : ∀ j : Nat, j < gs.length → (gE gs (j : Int)).2.length ≤ 1000000000 := fun j hj => hob _ (gE_mem' (by omega))
 refine W ?_
 refine At.box rfl rfl rfl (.t rfl) (fun b1 hb1 => ⟨.all, ?_⟩)
 refine W ?_
 refine cP rfl rfl rfl (.k rfl .nil) rfl (r_IsConf (th := th) (cap := cap) (wd := wd) (ver := ver)) (fun _ h => nomatch h) (fun v N1 H1 hR => ?_); obtain ⟨⟨e, rfl, he⟩, rfl, rfl⟩ := hR; refine ⟨rfl, .all, ?_⟩
 refine Z ?_
 refine At.condN (.t rfl) (fun c1 => ?_) (fun c1 => ?_)
 ·
  refine W ?_
  exact fT rfl (.t rfl) (⟨⟨_, rfl, fun h => absurd h c1⟩, rfl, rfl⟩)
 ·
  refine Z ?_
  refine At.cond (.t rfl) (fun c2 => ?_) (fun c2 => ?_)
  ·
   refine W ?_
   exact fT rfl (.t rfl) (⟨⟨_, rfl, fun h => absurd h (by decide)⟩, rfl, rfl⟩)
  ·
   simp at c2
   refine W ?_
   refine At.loop1 (fun (i : Nat) => i ≤ gs.length ∧ ∀ j : Nat, j < i → (gE gs (j : Int)).2.length ≤ 1000) (fun (i : Nat) => gs.length - i) (fun (i : Nat) => [(1, true, .pointer (some ⟨b1, 0, none⟩)), (4, true, .int .i64 i)]) (fun (i : Nat) => [.blk b1 (.cells #[.int .i64 th, .int .i64 cap, .int .i64 wd, .int .i64 ver, Ov, Pv, dv] 27)]) (fun (i : Nat) => []) (0) ⟨Nat.zero_le _, fun j hj => absurd hj (Nat.not_lt_zero _)⟩ (.cons rfl (.cons rfl .nil)) (List.Sublist.refl _) rfl (fun i hi => ?_)
   obtain ⟨hi1, hi2⟩ := hi
   refine Z ?_
   refine At.condD (.t rfl) (fun c3 => ?_) (fun c3 => ?_)
   ·
    refine U ?_
    refine eA rfl (R.indexRd Tryz.underlying24 sz_75 (.t rfl) (rS M2) (.t rfl) gO) ?_
    refine eA rfl (R.loadRd Tryz.underlying75 rfl (.t rfl) (rS M2) (fun hg => by exact nestGet (by omega))) ?_
    refine eA rfl (R.lenRd Tryz.underlying75 (.t rfl) (by exact nestS hG (by omega))) ?_
    refine eA rfl (R.gtr (.t rfl) .c) ?_
    refine U ?_
    refine At.condD (.t rfl) (fun c4 => ?_) (fun c4 => ?_)
    ·
     refine W ?_
     exact fT rfl (.t rfl) (⟨⟨_, rfl, fun h => absurd h (by decide)⟩, rfl, rfl⟩)
    ·
     have h4 : (gE gs (i : Int)).2.length ≤ 1000 := (by simp at c4; omega)
     refine W ?_
     exact At.again1 (i + 1) ⟨by omega, fun j hj => (by rcases Nat.lt_succ_iff_lt_or_eq.1 hj with h | h; exact hi2 j h; subst h; exact h4)⟩ (by omega) (.cons rfl (.cons rfl .nil)) (List.Sublist.refl _) rfl
   ·
    refine W ?_
    refine At.loop1 (fun (a : Nat) => a ≤ gs.length ∧ ∀ j : Nat, j < a → ∀ z : Nat, z < (gE gs (j : Int)).2.length → OpOk (gE (gE gs (j : Int)).2 (z : Int))) (fun (a : Nat) => gs.length - a) (fun (a : Nat) => [(1, true, .pointer (some ⟨b1, 0, none⟩)), (5, true, .int .i64 a)]) (fun (a : Nat) => [.blk b1 (.cells #[.int .i64 th, .int .i64 cap, .int .i64 wd, .int .i64 ver, Ov, Pv, dv] 27)]) (fun (a : Nat) => []) (0) ⟨Nat.zero_le _, fun j hj => absurd hj (Nat.not_lt_zero _)⟩ (.cons rfl (.cons rfl .nil)) (List.Sublist.refl _) rfl (fun a hi => ?_)
    obtain ⟨ha1, ha2⟩ := hi
    refine Z ?_
    refine At.condD (.t rfl) (fun c5 => ?_) (fun c5 => ?_)
    ·
     refine W ?_
     refine At.loop1 (fun (q : Nat) => q ≤ (gE gs (a : Int)).2.length ∧ ∀ z : Nat, z < q → OpOk (gE (gE gs (a : Int)).2 (z : Int))) (fun (q : Nat) => (gE gs (a : Int)).2.length - q) (fun (q : Nat) => [(1, true, .pointer (some ⟨b1, 0, none⟩)), (5, true, .int .i64 a), (6, true, .int .i64 q)]) (fun (q : Nat) => [.blk b1 (.cells #[.int .i64 th, .int .i64 cap, .int .i64 wd, .int .i64 ver, Ov, Pv, dv] 27)]) (fun (q : Nat) => []) (0) ⟨Nat.zero_le _, fun j hj => absurd hj (Nat.not_lt_zero _)⟩ (.cons rfl (.cons rfl (.cons rfl .nil))) (List.Sublist.refl _) rfl (fun q hi => ?_)
     obtain ⟨hq1, hq2⟩ := hi; have h9 := hgo a (by omega)
     refine U ?_
     refine eA rfl (R.indexRd Tryz.underlying24 sz_75 (.t rfl) (rS M2) (.t rfl) gO) ?_
     refine eA rfl (R.loadRd Tryz.underlying75 rfl (.t rfl) (rS M2) (fun hg => by exact nestGet (by omega))) ?_
     refine eA rfl (R.lenRd Tryz.underlying75 (.t rfl) (by exact nestS hG (by omega))) ?_
     refine eA rfl (R.lss (.t rfl) (.t rfl)) ?_
     refine U ?_
     refine At.condD (.t rfl) (fun c6 => ?_) (fun c6 => ?_)
     ·
      refine U ?_
      refine eA rfl (R.indexRd Tryz.underlying24 sz_75 (.t rfl) (rS M2) (.t rfl) gO) ?_
      refine eA rfl (R.loadRd Tryz.underlying75 rfl (.t rfl) (rS M2) (fun hg => by exact nestGet (by omega))) ?_
      refine U ?_
      refine eA rfl (R.indexRd Tryz.underlying75 sz_110 (.t rfl) (by exact nestS hG (by omega)) (.t rfl) gO) ?_
      refine eA rfl (R.loadRdAgg (us := opK.enc _) Tryz.underlying110 rfl sz_110 (.t rfl) (by exact nestS hG (by omega)) gO (fun hg => by exact Ek.getA (by omega))) ?_
      refine cP rfl rfl rfl (.k rfl .nil) rfl (r_IsOp (o := gE (gE gs (a : Int)).2 (q : Int))) (fun _ h => nomatch h) (fun v N1 H1 hR => ?_); obtain ⟨⟨oe, rfl, hoe⟩, rfl, rfl⟩ := hR; refine ⟨rfl, .all, ?_⟩
      refine Z ?_
      refine At.cond (.t rfl) (fun c7 => ?_) (fun c7 => ?_)
      ·
       refine W ?_
       exact fT rfl (.t rfl) (⟨⟨_, rfl, fun h => absurd h (by decide)⟩, rfl, rfl⟩)
      ·
       have ho7 := hoe (by simpa using c7)
       refine W ?_
       exact At.again1 (q + 1) ⟨by omega, fun z hz => (by rcases Nat.lt_succ_iff_lt_or_eq.1 hz with h | h; exact hq2 z h; subst h; exact ho7)⟩ (by omega) (.cons rfl (.cons rfl (.cons rfl .nil))) (List.Sublist.refl _) rfl
     ·
      refine W ?_
      exact At.again1 (a + 1) ⟨by omega, fun j hj => (by rcases Nat.lt_succ_iff_lt_or_eq.1 hj with h | h; exact ha2 j h; subst h; exact fun z hz => hq2 z (by omega))⟩ (by omega) (.cons rfl (.cons rfl .nil)) (List.Sublist.refl _) rfl
    ·
     refine W ?_
     exact fT rfl (.t rfl) (⟨⟨_, rfl, fun _ => ⟨he (by omega), by omega, by omega, allE fun j hj => hi2 j (by omega), allE fun j hj => allE fun z hz => ha2 j (by omega) z hz⟩⟩, rfl, rfl⟩)
theorem r_NewArena {n : Nat} (h0 : 1 ≤ n ∧ n ≤ 20000) : Fn Tryz.prog 41 [.int .i64 (n : Int)] ([]) ([]) (fun v N H => (∃ ba wv, v = .pointer (some ⟨ba, 0, none⟩) ∧ N = [raB ba wv (rN0 n), raW wv n (rN0 n)]) ∧ H = []) := by
 refine Fn.enter Tryz.func41 (by kernel_rfl) rfl (n := 8) rfl rfl (fun w => ?_)
 refine W ?_
 refine At.callVR rfl rfl rfl (.k rfl (.kc (.kc .nil))) (.nil) (fun hg => (by have e : max 1 (min (n : Int) 20000) = (n : Int) := (by omega); have := r_held (x := (n : Int)) (y := 1) (z := 20000); rw [e] at this; exact this)) .all ?_
 refine At.makeSl (k := zK) (z := 0) rfl rfl rfl Tryz.underlying25 et_3 ze_3 rfl (.t rfl) (.t rfl) (by refine ⟨?_, ?_⟩ <;> first | omega | (simp; omega)) (fun v1 => ⟨.all, ?_⟩)
 refine At.rowOne (v := v1) (M0) (fun h1v => ?_)
 refine eA rfl (R.build (cs := [v1, .int .i64 0, .int .i64 0, .int .i64 0, .int .i64 0, .int .i64 0, .bool false]) bt_59 (.k rfl .nil) (.cons (c := [_]) (cells_one h1v) .nil) rfl) ?_
 refine At.box rfl rfl rfl (.t rfl) (fun b1 hb1 => ⟨.all, ?_⟩)
 refine W ?_
 refine At.re (N' := [raB b1 v1 (rN0 n), raW v1 n (rN0 n)]) (by show [_, Ent.row _ _ _ (List.replicate n (0 : Int)).length _] = _; rw [List.length_replicate]; rfl) ?_
 exact At.final (N' := [raB b1 v1 (rN0 n), raW v1 n (rN0 n)]) rfl (.t rfl) (List.Sublist.refl _) (⟨⟨b1, v1, rfl, rfl⟩, rfl⟩)
theorem r_Make {th cap ver : Int} {n : Nat} (h : ConfOk th cap n ver) : Fn Tryz.prog 73 [.agg #[.int .i64 th, .int .i64 cap, .int .i64 (n : Int), .int .i64 ver]] ([]) ([]) (fun v N H => (∃ ba wv, v = .pointer (some ⟨ba, 0, none⟩) ∧ N = [raB ba wv ((((rN0 n).poke 2 (21 + th + 3 * cap)).poke (7 + th + 0) (-1)).poke (7 + th + 2) (nextD (14 + th) false)), raW wv n ((((rN0 n).poke 2 (21 + th + 3 * cap)).poke (7 + th + 0) (-1)).poke (7 + th + 2) (nextD (14 + th) false))]) ∧ H = []) := by
 refine Fn.enter Tryz.func73 (by kernel_rfl) rfl (n := 25) rfl rfl (fun w => ?_)
 obtain ⟨hk1, hk2, hk3, hk4, hk5⟩ := h
 refine W ?_
 refine At.box rfl rfl rfl (.t rfl) (fun b1 hb1 => ⟨.all, ?_⟩)
 refine W ?_
 refine cP rfl rfl rfl (.k rfl .nil) rfl (r_NewArena (n := n) (by omega)) (fun _ h => nomatch h) (fun v N1 H1 hR => ?_); obtain ⟨⟨ba, wv, rfl, rfl⟩, rfl⟩ := hR; refine ⟨rfl, .all, ?_⟩
 refine W ?_
 refine At.callVR rfl rfl rfl (.k rfl .nil) (.nil) (fun hg => r_Top (by omega) (by omega)) .all ?_
 refine cM rfl rfl rfl (.k rfl (.kc (.k rfl .nil))) rfl (.n (.take (.take .nil))) .nil (r_Poke (r := (rN0 n)) (i := 2) (x := 21 + th + 3 * cap) (List.length_replicate) (by omega)) keysRa .nil ⟨.all, ?_⟩
 refine W ?_
 refine At.callVR rfl rfl rfl (.k rfl .nil) (.nil) (fun hg => r_Head (by omega)) .all ?_
 refine W ?_
 refine cM rfl rfl rfl (.k rfl (.k rfl (.kc .nil))) rfl (.n (.take (.take .nil))) .nil (r_Poke (r := ((rN0 n).poke 2 (21 + th + 3 * cap))) (i := 7 + th + 0) (x := -1) (by (simp only [Rr.poke_len]; exact List.length_replicate)) (by omega)) keysRa .nil ⟨.all, ?_⟩
 refine W ?_
 refine At.drawL ([.blk b1 (.cells _ 23)]) [tt 0, tt 1, tt 4] [ff 2, tt 3, ff 5, ff 6] [ff 7] (keepOf sl) (by kernel_rfl) (by kernel_rfl) ?_
 refine V ?_
 refine At.stage kI ?_
 refine At.callVR rfl rfl rfl (.k rfl .nil) (.nil) (fun hg => r_Head (by omega)) kI ?_
 refine W ?_
 refine At.callVR rfl rfl rfl (.k rfl .nil) (.nil) (fun hg => r_First (by omega)) kI ?_
 refine At.callVR rfl rfl rfl (.k rfl (.kc .nil)) (.nil) (fun hg => r_Next) kI ?_
 refine At.stage kz ?_
 refine cM rfl rfl rfl (.k rfl (.k rfl (.k rfl .nil))) rfl (.n (.take (.take .nil))) .nil (r_Poke (r := (((rN0 n).poke 2 (21 + th + 3 * cap)).poke (7 + th + 0) (-1))) (i := 7 + th + 2) (x := nextD (14 + th) false) (by (simp only [Rr.poke_len]; exact List.length_replicate)) (by omega)) keysRa .nil ⟨kz, ?_⟩
 refine W ?_
 exact At.final (N' := [raB ba wv ((((rN0 n).poke 2 (21 + th + 3 * cap)).poke (7 + th + 0) (-1)).poke (7 + th + 2) (nextD (14 + th) false)), raW wv n ((((rN0 n).poke 2 (21 + th + 3 * cap)).poke (7 + th + 0) (-1)).poke (7 + th + 2) (nextD (14 + th) false))]) rfl (.t rfl) sl (⟨⟨ba, wv, rfl, rfl⟩, rfl⟩)
end Go.Proofs.YtbolanigdkgbdaaGreat
namespace Go.Proofs.YtbolanigdkgbdaaGreat
open Go Go.RowKit
set_option maxRecDepth 10000
set_option linter.unusedVariables false
set_option linter.unnecessarySimpa false
set_option linter.unusedSectionVars false
set_option maxHeartbeats 1000000
theorem bt_85 : buildTab Tryz.prog 85 = some (#[.int .i64 0, .int .i64 0, .int .i64 0, .int .i64 0, .slice none 0 0, .slice none 0 0, .slice none 0 0, .pointer none, .slice none 0 0, .int .i64 0, .int .i64 0, .slice none 0 0, .slice none 0 0], [(0, 7), (7, 1), (8, 1), (9, 1), (10, 1), (11, 1), (12, 1)]) := by kernel_rfl
theorem et_116 : elemTab Tryz.prog 116 = some (6, 48) := by kernel_rfl
theorem sz_27 : (Tryz.prog.info? 27).map (·.size) = some 7 := by kernel_rfl
theorem ze_116 : (Tryz.prog.info? 116).bind (·.zero) = some (.agg #[.int .i64 0, .bool false, .int .i64 0, .pointer none, .pointer none, .pointer none]) := by kernel_rfl
abbrev rMk (n : Nat) (th cap : Int) : Rr := (((rN0 n).poke 2 (21 + th + 3 * cap)).poke (7 + th + 0) (-1)).poke (7 + th + 2) (nextD (14 + th) false)
theorem rMk_okk {n : Nat} {th cap ver : Int} (h : ConfOk th cap n ver) : (rMk n th cap).okk n 0 := by
  have h1 := h.h_th; have h2 := h.h_cap
  exact ((rN0_okk.poke (Bd.sm (by omega))).poke (Bd.sm (by decide))).poke Bd.next
theorem ma_New {th ver : Int} {cap n : Nat} {Ov Pv dv : Value} {gs : opsRows} {ps l0 : List Int} (hgb : gs.length ≤ 1000000000) (hpb : ps.length ≤ 1000000000) (hob : ∀ y ∈ gs, y.2.length ≤ 1000000000) : FnX Tryz.prog 40 [.agg #[.int .i64 th, .int .i64 (cap : Int), .int .i64 (n : Int), .int .i64 ver, Ov, Pv, dv]] (rdE zK dv l0 :: rdE zK Pv ps :: nest opK Ov gs) ([]) (fun v N => (∃ e, v = .tuple #[.pointer none, .int .i64 e] ∧ ¬ e = 0 ∧ N = []) ∨ (ScOk th cap n ver gs ps ∧ ∃ mb ba wv tv, v = .tuple #[.pointer (some ⟨mb, 0, none⟩), .int .i64 0] ∧ N = [maB mb Ov Pv dv ba tv (.slice none 0 0) (.slice none 0 0) (⟨th, cap, (n : Int), ver, 0, 0⟩ : Ma), rowE thK 116 tv (List.replicate th.toNat (default : Th)), raB ba wv (rMk n th (cap : Int)), raW wv n (rMk n th (cap : Int))])) := by
 refine FnX.enter Tryz.func40 (by kernel_rfl) rfl (n := 20) rfl rfl (fun w df hds how => ?_)
 have hG : ∀ y ∈ gs, rdE opK y.1 y.2 ∈ rdE zK dv l0 :: rdE zK Pv ps :: nest opK Ov gs := fun y hy => .tail _ (.tail _ (.tail _ ((List.mem_map.2 ⟨y, hy, rfl⟩))))
 refine W ?_
 refine At.box rfl rfl rfl (.t rfl) (fun b1 hb1 => ⟨.all, ?_⟩)
 refine W ?_
 refine cP rfl rfl rfl (.k rfl .nil) rfl (r_IsScript (th := th) (cap := (cap : Int)) (wd := (n : Int)) (ver := ver) (Ov := Ov) (Pv := Pv) (dv := dv) (gs := gs) (ps := ps) (l0 := l0) hgb hpb hob) (fun e he w hw => hw.hasS e he) (fun v N1 H1 hR => ?_); obtain ⟨⟨e, rfl, he⟩, rfl, rfl⟩ := hR; refine ⟨rfl, .all, ?_⟩
 refine Z ?_
 refine At.condN (.t rfl) (fun c1 => ?_) (fun c1 => ?_)
 ·
  refine W ?_
  exact At.finalX2 (N' := []) hds how rfl (.t rfl) (.t rfl) (List.nil_sublist _) (.inl ⟨_, rfl, c1, rfl⟩)
 ·
  have hok := he (by omega); have hth := hok.conf.h_th
  refine W ?_
  let F14 : Nat → Value → Nat → Fr := fun ba tv mb => [(10, true, .agg #[.int .i64 th, .int .i64 (cap : Int), .int .i64 (n : Int), .int .i64 ver, Ov, Pv, dv]), (11, pt b1 0), (12, true, .agg #[.int .i64 th, .int .i64 (cap : Int), .int .i64 (n : Int), .int .i64 ver]), (13, pt ba 0), (14, pt b1 0), (15, pt b1 0), (16, iv (th.toNat : Int)), (17, true, tv), (18, true, .agg #[.int .i64 th, .int .i64 (cap : Int), .int .i64 (n : Int), .int .i64 ver, Ov, Pv, dv, .pointer (some ⟨ba, 0, none⟩), tv, .int .i64 0, .int .i64 0, .slice none 0 0, .slice none 0 0]), (19, pt mb 0), (2, pt mb 0), (3, iv 0), (1, pt b1 0)]
  refine At.dag [tt 0, tt 1, tt 2, tt 4, tt 5, tt 6] 6 (mF 12 [3, 7, 8, 9, 10, 11]) ([.blk b1 (.cells #[.int .i64 th, .int .i64 (cap : Int), .int .i64 (n : Int), .int .i64 ver, Ov, Pv, dv] 27)]) (keepOf sl) (by kernel_rfl) (by kernel_rfl) (fun G hnode hdone => ?_)
  have g0 : ∀ (ba : Nat) (wv : Value) (tv : Value) (mb : Nat), At w 20 (rdE zK dv l0 :: rdE zK Pv ps :: nest opK Ov gs) (fs (F14 ba tv mb) 8191) ([maB mb Ov Pv dv ba tv (.slice none 0 0) (.slice none 0 0) (⟨th, cap, (n : Int), ver, 0, 0⟩ : Ma), rowE thK 116 tv (List.replicate th.toNat (default : Th)), raB ba wv (rMk n th (cap : Int)), raW wv n (rMk n th (cap : Int)), .blk b1 (.cells #[.int .i64 th, .int .i64 (cap : Int), .int .i64 (n : Int), .int .i64 ver, Ov, Pv, dv] 27)]) ([]) (G 0 (mF 12 [])) := fun ba wv tv mb => by
   refine hdone _ _ _ (by kernel_rfl) ?_
   refine W ?_
   exact At.finalX2 (N' := [maB mb Ov Pv dv ba tv (.slice none 0 0) (.slice none 0 0) (⟨th, cap, (n : Int), ver, 0, 0⟩ : Ma), rowE thK 116 tv (List.replicate th.toNat (default : Th)), raB ba wv (rMk n th (cap : Int)), raW wv n (rMk n th (cap : Int))]) hds how rfl (.t rfl) (.t rfl) sl (.inr ⟨hok, mb, ba, wv, tv, rfl, rfl⟩)
  have g1 : ∀ (ba : Nat) (wv : Value) (tv : Value), At w 20 (rdE zK dv l0 :: rdE zK Pv ps :: nest opK Ov gs) (fs (F14 ba tv 0) 4607) ([rowE thK 116 tv (List.replicate th.toNat (default : Th)), raB ba wv (rMk n th (cap : Int)), raW wv n (rMk n th (cap : Int)), .blk b1 (.cells #[.int .i64 th, .int .i64 (cap : Int), .int .i64 (n : Int), .int .i64 ver, Ov, Pv, dv] 27)]) ([]) (G 3 (mF 12 [9, 10, 11])) := fun ba wv tv => by
   refine hnode _ _ _ _ [(9, [tt 10, tt 11], 0, (mF 12 []))] (by kernel_rfl) kz ?_
   ·
    refine At.box rfl rfl rfl (.t rfl) (fun b2 hb2 => ⟨kz, ?_⟩)
    refine W ?_
    exact wk (g0 ba wv tv b2)
  have g2 : ∀ (ba : Nat) (wv : Value), At w 20 (rdE zK dv l0 :: rdE zK Pv ps :: nest opK Ov gs) (fs (F14 ba .nilFunc 0) 4223) ([raB ba wv (rMk n th (cap : Int)), raW wv n (rMk n th (cap : Int)), .blk b1 (.cells #[.int .i64 th, .int .i64 (cap : Int), .int .i64 (n : Int), .int .i64 ver, Ov, Pv, dv] 27)]) ([]) (G 5 (mF 12 [7, 8, 9, 10, 11])) := fun ba wv => by
   refine hnode _ _ _ _ [(7, [tt 8], 3, (mF 12 [9, 10, 11]))] (by kernel_rfl) kz ?_
   ·
    refine At.makeSl (k := thK) (z := (default : Th)) rfl rfl rfl Tryz.underlying82 et_116 ze_116 rfl (.t rfl) (.t rfl) (by refine ⟨?_, ?_⟩ <;> first | omega | (simp; omega)) (fun v1 => ⟨kz, ?_⟩)
    refine At.rowOne (v := v1) (List.mem_append_right _ M0) (fun h1v => ?_)
    refine sC rfl kz (R.build (cs := [.int .i64 th, .int .i64 (cap : Int), .int .i64 (n : Int), .int .i64 ver, Ov, Pv, dv, .pointer (some ⟨ba, 0, none⟩), v1, .int .i64 0, .int .i64 0, .slice none 0 0, .slice none 0 0]) bt_85 (.k rfl (.k rfl (.k rfl .nil))) (.cons rfl (.cons rfl (.cons (c := [_]) (cells_one h1v) .nil))) rfl) ?_
    refine W ?_
    exact wk (g1 ba wv v1)
  have g3 : ∀ (tv : Value), At w 20 (rdE zK dv l0 :: rdE zK Pv ps :: nest opK Ov gs) (fs (F14 0 tv 0) 4343) ([rowE thK 116 tv (List.replicate th.toNat (default : Th)), .blk b1 (.cells #[.int .i64 th, .int .i64 (cap : Int), .int .i64 (n : Int), .int .i64 ver, Ov, Pv, dv] 27)]) ([]) (G 5 (mF 12 [3, 8, 9, 10, 11])) := fun tv => by
   refine hnode _ _ _ _ [(3, [tt 8], 3, (mF 12 [9, 10, 11]))] (by kernel_rfl) kz ?_
   ·
    refine cP rfl rfl rfl (.k rfl .nil) rfl (r_Make (th := th) (cap := (cap : Int)) (n := n) (ver := ver) hok.conf) (fun _ h => nomatch h) (fun v N1 H1 hR => ?_); obtain ⟨⟨ba, wv, rfl, rfl⟩, rfl⟩ := hR; refine ⟨rfl, kz, ?_⟩
    refine At.rowOne (v := tv) (List.mem_append_right _ M2) (fun h1v => ?_)
    refine sC rfl kz (R.build (cs := [.int .i64 th, .int .i64 (cap : Int), .int .i64 (n : Int), .int .i64 ver, Ov, Pv, dv, .pointer (some ⟨ba, 0, none⟩), tv, .int .i64 0, .int .i64 0, .slice none 0 0, .slice none 0 0]) bt_85 (.k rfl (.k rfl (.k rfl .nil))) (.cons rfl (.cons rfl (.cons (c := [_]) (cells_one h1v) .nil))) rfl) ?_
    refine W ?_
    refine At.perm (N' := [rowE thK 116 tv (List.replicate th.toNat (default : Th)), raB ba wv (rMk n th (cap : Int)), raW wv n (rMk n th (cap : Int)), .blk b1 (.cells #[.int .i64 th, .int .i64 (cap : Int), .int .i64 (n : Int), .int .i64 ver, Ov, Pv, dv] 27)]) ((List.perm_append_comm (l₁ := [_, _]) (l₂ := [_])).append_right [_]) ?_
    exact wk (g1 ba wv tv)
  have g4 : ∀ (_ : True), At w 20 (rdE zK dv l0 :: rdE zK Pv ps :: nest opK Ov gs) (fs (F14 0 .nilFunc 0) 4215) ([.blk b1 (.cells #[.int .i64 th, .int .i64 (cap : Int), .int .i64 (n : Int), .int .i64 ver, Ov, Pv, dv] 27)]) ([]) (G 6 (mF 12 [3, 7, 8, 9, 10, 11])) := fun _ => by
   refine hnode _ _ _ _ [(3, [], 5, (mF 12 [7, 8, 9, 10, 11])), (7, [], 5, (mF 12 [3, 8, 9, 10, 11]))] (by kernel_rfl) kz ?_
   refine ⟨?_, ?_⟩
   ·
    refine cP rfl rfl rfl (.k rfl .nil) rfl (r_Make (th := th) (cap := (cap : Int)) (n := n) (ver := ver) hok.conf) (fun _ h => nomatch h) (fun v N1 H1 hR => ?_); obtain ⟨⟨ba, wv, rfl, rfl⟩, rfl⟩ := hR; refine ⟨rfl, kz, ?_⟩
    refine W ?_
    exact wk (g2 ba wv)
   ·
    refine At.makeSl (k := thK) (z := (default : Th)) rfl rfl rfl Tryz.underlying82 et_116 ze_116 rfl (.t rfl) (.t rfl) (by refine ⟨?_, ?_⟩ <;> first | omega | (simp; omega)) (fun v1 => ⟨kz, ?_⟩)
    refine W ?_
    exact wk (g3 v1)
  refine sC rfl kz (R.loadAgg (vs := [_, _, _, _, _, _, _]) Tryz.underlying27 rfl sz_27 (.t rfl) (csK M0 ⟨rfl, rfl, rfl, rfl, rfl, rfl, rfl, trivial⟩)) ?_
  refine sC rfl kz (R.fieldAddr fo_27_0 (.t rfl)) ?_
  refine sC rfl kz (R.loadAgg (vs := [_, _, _, _]) Tryz.underlying23 rfl sz_23 (.t rfl) (csK M0 ⟨rfl, rfl, rfl, rfl, trivial⟩)) ?_
  refine sC rfl kz (R.fieldAddr fo_27_0 (.t rfl)) ?_
  refine sC rfl kz (R.fieldAddr fo_23_0 (.t rfl)) ?_
  refine At.s rfl rfl rfl rfl (Cl.kept (by (exact keepOf (by (apply List.Sublist.cons; apply List.Sublist.cons; apply List.Sublist.cons; exact List.sublist_append_right _ _))))) (R.as (R.load Tryz.underlying3 rfl (.t rfl) (by exact cK M0 rfl)) (fun _ => congrArg (Value.int .i64) (Int.toNat_of_nonneg (by omega : 0 ≤ th)).symm)) ?_
  refine W ?_
  exact wk (g4 trivial)
end Go.Proofs.YtbolanigdkgbdaaGreat
