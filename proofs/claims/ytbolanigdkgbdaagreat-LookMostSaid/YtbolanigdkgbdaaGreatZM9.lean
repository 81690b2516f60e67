/- Part of the proof: lemmas for what the last file states; no condition. -/
import Derived.Test.YtbolanigdkgbdaaGreatZM8
set_option linter.unusedSectionVars false
namespace Go.Proofs.YtbolanigdkgbdaaGreat
open Go Go.RowKit
theorem bdnZM9 {p : Prop} (h : p := by simp only [List.length_append, List.length_cons, List.length_nil, List.length_take, List.length_drop]; omega) : p := h
set_option linter.unusedVariables false
set_option maxHeartbeats 1000000
theorem cellsW_le (a : Int) (l : List Cel) : ∀ k, (cellsW a l k).length ≤ 3 * k
  | 0 => Nat.le_refl _
  | k + 1 => by
    have := cellsW_le a l k
    unfold cellsW cellW
    rw [List.length_append]
    split <;> simp <;> omega
theorem wordsF_le {cs : List (Chk × List Cel)} (h : ∀ x ∈ cs, x.2.length ≤ 100) : ∀ n, n ≤ cs.length → (wordsF cs n).length ≤ 303 * n
  | 0, _ => Nat.le_refl _
  | n + 1, hn => by
    have h1 := wordsF_le h n (by omega)
    have h2 := h (gE cs (n : Int)) (gE_mem' (by omega))
    have h3 := cellsW_le (gE cs (n : Int)).1.a0 (gE cs (n : Int)).2 (gE cs (n : Int)).2.length
    unfold wordsF
    simp only [List.length_append, List.length_cons, List.length_nil]; omega
theorem wordsF_pos {cs : List (Chk × List Cel)} {n : Nat} (h : 0 < n) : 0 < (wordsF cs n).length := by
  obtain ⟨m, rfl⟩ : ∃ m, n = m + 1 := ⟨n - 1, by omega⟩
  unfold wordsF; simp only [List.length_append, List.length_cons]; omega
theorem cellsW_bd {q : Nat} {a : Int} {l : List Cel} (h : ∀ y ∈ l, Bd q y.state ∧ Bd q y.key ∧ Bd q y.data) : ∀ k, k ≤ l.length → ∀ w ∈ cellsW a l k, Bd q w.2
  | 0, _, w, hw => nomatch hw
  | k + 1, hk, w, hw => by
    unfold cellsW at hw
    rcases List.mem_append.1 hw with hw | hw
    · exact cellsW_bd h k (by omega) w hw
    · obtain ⟨h1, h2, h3⟩ := h (gE l (k : Int)) (gE_mem' (by omega))
      unfold cellW at hw
      split at hw
      · cases hw
      · simp only [List.mem_cons, List.not_mem_nil, or_false] at hw
        rcases hw with rfl | rfl | rfl <;> assumption
theorem cellsP_bd {q cap : Nat} {g : List Itm} (h : ∀ y ∈ g, Bd q y.key ∧ Bd q y.data) : ∀ y ∈ cellsP cap g g.length, Bd q y.state ∧ Bd q y.key ∧ Bd q y.data := fun y hy => by
  unfold cellsP at hy
  rcases List.mem_append.1 hy with hy | hy
  · obtain ⟨z, hz, rfl⟩ := List.mem_map.1 hy
    obtain ⟨h1, h2⟩ := h z (List.mem_of_mem_take hz)
    exact ⟨Bd.sm (by show -72057594037927936 ≤ min (max z.ver 0) 16777212 + 3 ∧ min (max z.ver 0) 16777212 + 3 ≤ 72057594037927936; omega), h1, h2⟩
  · rw [(List.mem_replicate.1 hy).2]; exact ⟨Bd.sm (by decide), Bd.sm (by decide), Bd.sm (by decide)⟩
theorem words_bd {q cap : Nat} {at_ after least : Int} {G : List (List Itm)} {cs : List (Chk × List Cel)} (h : cs.map (fun x : Chk × List Cel => (hd x.1, x.2)) = chunksF cap at_ after least G) (hc : cap ≤ 16) (hl : Bd q least) (hG : ∀ g ∈ G, ∀ y ∈ g, Bd q y.key ∧ Bd q y.data) :
    ∀ n, n ≤ cs.length → ∀ w ∈ wordsF cs n, Bd q w.2
  | 0, _, w, hw => nomatch hw
  | n + 1, hn, w, hw => by
    have hx : gE cs (n : Int) ∈ cs := gE_mem' (by omega)
    have hm : (hd (gE cs (n : Int)).1, (gE cs (n : Int)).2) ∈ chunksF cap at_ after least G := by rw [← h]; exact List.mem_map.2 ⟨_, hx, rfl⟩
    unfold wordsF at hw
    rcases List.mem_append.1 hw with hw | hw
    · exact words_bd h hc hl hG n (by omega) w hw
    · unfold chunksF at hm
      split at hm
      · rename_i hGc
        obtain ⟨i, hi, he⟩ := List.mem_map.1 hm
        rw [List.mem_range] at hi
        have hg : gE G (i : Int) ∈ G := gE_mem' (by omega)
        unfold chunkS at he
        have e1 : minG least G i = (gE cs (n : Int)).1.a1 := congrArg (fun z : List Int × List Cel => gE z.1 1) he
        have e2 : ((gE G (i : Int)).length : Int) = (gE cs (n : Int)).1.a2 := congrArg (fun z : List Int × List Cel => gE z.1 2) he
        have e3 : 2 * min (max (if i + 1 = G.length then after else at_ + (i : Int) * (7 + 3 * (cap : Int)) + (7 + 3 * (cap : Int))) 0) 1073741824 = (gE cs (n : Int)).1.a3 := congrArg (fun z : List Int × List Cel => gE z.1 3) he
        have e4 : cellsP cap (gE G (i : Int)) (gE G (i : Int)).length = (gE cs (n : Int)).2 := congrArg (fun z : List Int × List Cel => z.2) he
        rcases List.mem_append.1 hw with hw | hw
        · simp only [List.mem_cons, List.not_mem_nil, or_false] at hw
          rcases hw with rfl | rfl | rfl
          · show Bd q (gE cs (n : Int)).1.a1
            rw [← e1]
            unfold minG
            split
            · exact hl
            · split
              · exact Bd.sm (by decide)
              · rename_i h0
                exact (hG _ hg _ (gE_mem' (j := 0) (by omega))).1
          · show Bd q (gE cs (n : Int)).1.a2
            have := hGc _ hg
            rw [← e2]; exact Bd.sm (by omega)
          · show Bd q (gE cs (n : Int)).1.a3
            rw [← e3]; generalize (if i + 1 = G.length then after else at_ + (i : Int) * (7 + 3 * (cap : Int)) + (7 + 3 * (cap : Int))) = z; exact Bd.sm (by omega)
        · rw [← e4] at hw
          exact cellsW_bd (cellsP_bd (hG _ hg)) _ (Nat.le_refl _) w hw
      · cases hm
theorem perm_lay {a b c d : Ent} {T : Hp} : (a :: b :: c :: d :: T).Perm (c :: d :: b :: a :: T) := by
  have h1 : (a :: b :: c :: d :: T).Perm (c :: d :: a :: b :: T) := (List.perm_append_comm (l₁ := [a, b]) (l₂ := [c, d])).append_right T
  exact h1.trans (((List.Perm.swap b a T).cons d).cons c)
structure Db.bd (k : Nat) (x : Db) : Prop where
  b_chunk : Bd k x.chunk
  b_mate : Bd k x.mate
  b_after : Bd k x.after
  b_min : Bd k x.min
  b_at : Bd k x.at_
  b_xk : Bd k x.xk
  b_repl : Bd k x.repl
  cap : 1 ≤ x.cap ∧ x.cap ≤ 16
  wd : 0 ≤ x.wd ∧ x.wd ≤ 1000000
def itB (k : Nat) (l : List Itm) : Prop := ∀ y ∈ l, Bd k y.key ∧ Bd k y.data
theorem itB.le {k j : Nat} {l : List Itm} (h : itB k l) (hj : k ≤ j) : itB j l := fun y hy => ⟨(h y hy).1.le hj, (h y hy).2.le hj⟩
theorem Db.bd.le {k j : Nat} {x : Db} (h : x.bd k) (hj : k ≤ j) : x.bd j := ⟨h.b_chunk.le hj, h.b_mate.le hj, h.b_after.le hj, h.b_min.le hj, h.b_at.le hj, h.b_xk.le hj, h.b_repl.le hj, h.cap, h.wd⟩
theorem Db.bd.ok {k : Nat} {x : Db} (h : x.bd k) (hk : k ≤ 100000000) (hi : -1 ≤ x.i ∧ x.i ≤ 50000) : x.ok := by
  have h1 := h.b_chunk.big hk; have h2 := h.b_mate.big hk; have h3 := h.b_after.big hk
  exact ⟨by omega, by omega, by omega, h.cap, hi⟩
def BuM (k b : Nat) (N : Hp) : Prop := ∃ (x : Db) (Vv Lv Gv Wv : Value), x.bd k ∧
  ((∃ vs l, N = [dbB b Vv Lv Gv Wv x, rowE zK 3 Vv vs, rowE iK 43 Lv l] ∧ itB k l ∧ (x.line = 1 ∧ x.i = 0 ∧ l = [] ∨ (x.line = 2 ∨ x.line = 3 ∨ x.line = 4) ∧ 0 ≤ x.i ∧ x.i < cellsD (x.cap : Int) x.mate ∧ (l.length : Int) ≤ x.i)) ∨
   (∃ gs, N = dbB b Vv Lv Gv Wv x :: rowE sK 40 Gv (gs.map (·.1)) :: seg iK 43 gs ∧ x.line = 5 ∧ 0 ≤ x.i ∧ x.i ≤ 50 ∧ 1 ≤ gs.length ∧ gs.length ≤ 60 ∧ ∀ g ∈ gs, itB k g.2) ∨
   (∃ ws, N = [dbB b Vv Lv Gv Wv x, rowE pK 224 Wv ws] ∧ x.line = 6 ∧ 0 ≤ x.i ∧ x.i < ws.length ∧ ws.length ≤ 30000 ∧ ∀ w ∈ ws, Bd k w.2) ∨
   (N = [dbB b Vv Lv Gv Wv x] ∧ (x.line = 7 ∨ x.line = 8) ∧ 0 ≤ x.i ∧ x.i ≤ 30000))
def BuR (n k b ba : Nat) (wv : Value) : Value → Hp → Prop := fun v N => ∃ (e : Bool) (r : Rr) (N1 : Hp), v = .bool e ∧ N = raB ba wv r :: raW wv n r :: N1 ∧ r.okk n (k + 1) ∧
  (e = false → BuM (k + 1) b N1) ∧ (e = true → ∃ (x : Db) (Vv Lv Gv Wv : Value), N1 = [dbB b Vv Lv Gv Wv x] ∧ x.bd (k + 1))
theorem bu_Step {n k b ba : Nat} {wv : Value} {r : Rr} {N : Hp} (hN : BuM k b N) (hr : r.okk n k) (hn : n ≤ 1000000) (hk : k ≤ 100000000) :
    FnX Tryz.prog 147 [.pointer (some ⟨b, 0, none⟩), .pointer (some ⟨ba, 0, none⟩)] [] (raB ba wv r :: raW wv n r :: N) (BuR n k b ba wv) := by
  have hf := hr.few hk; have hw := hr.big hk; have hl0 := hr.len
  obtain ⟨x, Vv, Lv, Gv, Wv, hx, h⟩ := hN
  have hc := hx.cap
  have h00 : Bd (k + 1) 0 := Bd.sm (by decide)
  have hcl := cellsD_le (c := (x.cap : Int)) (m := x.mate) (by omega)
  have hx1 := hx.le (Nat.le_succ k)
  rcases h with ⟨vs, l, rfl, hit, h⟩ | ⟨gs, rfl, hl, hi0, hi1, hg1, hg2, hgb⟩ | ⟨ws, rfl, hl, hi0, hi1, hwl, hwb⟩ | ⟨rfl, hl, hi0, hi1⟩
  · have hit1 := hit.le (Nat.le_succ k)
    rcases h with ⟨hl, hi, hl'⟩ | ⟨hl, hi0, hi1, hll⟩
    · subst hl'
      exact FnX.stepM (db_Step1 (hx.ok hk (by omega)) hl hl0 hn hf hw) rfl perm312 perm312 ⟨false, _, _, rfl, rfl, hr.load _, fun _ => ⟨{ x with min := r.peek x.chunk, i := -1 + 1, line := 2 }, Vv, Lv, Gv, Wv, ⟨hx1.b_chunk, hx1.b_mate, hx1.b_after, (hr.pk _).up, hx1.b_at, hx1.b_xk, hx1.b_repl, hx.cap, hx.wd⟩, .inl ⟨vs, [], rfl, hit1, .inr ⟨.inl rfl, by show (0 : Int) ≤ -1 + 1; decide, by show (-1 : Int) + 1 < cellsD (x.cap : Int) x.mate; omega, by show (0 : Int) ≤ -1 + 1; decide⟩⟩⟩, fun h => nomatch h⟩
    · have hi2 : x.i ≤ 31 := by omega
      have hok := hx.ok hk (by omega)
      rcases hl with hl | hl | hl
      · by_cases hs : r.peek (cellAtD (x.cap : Int) x.chunk x.mate x.i) < 3
        · by_cases hcc : x.i + 1 < cellsD (x.cap : Int) x.mate
          · exact FnX.stepM (db_Step2a hok hl hl0 hn hf hw hs hcc) rfl perm312 perm312 ⟨false, _, _, rfl, rfl, hr.load _, fun _ => ⟨{ x with xk := 0, xv := verD (r.peek (cellAtD (x.cap : Int) x.chunk x.mate x.i)), xd := 0, i := x.i + 1, line := 2 }, Vv, Lv, Gv, Wv, ⟨hx1.b_chunk, hx1.b_mate, hx1.b_after, hx1.b_min, hx1.b_at, h00, hx1.b_repl, hx.cap, hx.wd⟩, .inl ⟨vs, l, rfl, hit1, .inr ⟨.inl rfl, by show 0 ≤ x.i + 1; omega, hcc, by show (l.length : Int) ≤ x.i + 1; omega⟩⟩⟩, fun h => nomatch h⟩
          · refine FnX.stepX (T := []) (db_Step2b (wv := wv) (ba := ba) (Vv := Vv) (Lv := Lv) (Gv := Gv) (Wv := Wv) (l := l) (vs := vs) (by omega) hok hl hl0 hn hf hw hs hcc) ?_ ?_
            · rw [List.append_nil]; exact perm312 (T := [_, _])
            · rintro v B ⟨Lv2, Gv2, gs, rfl, hgs, rfl⟩
              have hsp := splitR_le (max 2 (min (x.cap : Int) 16) / 2) (keepF (sortF l) vs (sortF l).length)
              have hkl := keepF_le (sortF l) vs (sortF l).length
              have hsl := sortF_length l
              have hgl := congrArg List.length hgs
              rw [List.length_map] at hgl
              refine ⟨_, raB ba wv _ :: raW wv n _ :: (dbB b Vv Lv2 Gv2 Wv _ :: _ :: _), List.sublist_append_left _ _, perm_lay, false, _, _, rfl, rfl, hr.load _, fun _ => ⟨_, Vv, Lv2, Gv2, Wv, ?_, .inr (.inl ⟨gs, rfl, rfl, by show 0 ≤ x.i + 1; omega, by show x.i + 1 ≤ 50; omega, by omega, by omega, ?_⟩)⟩, fun h => nomatch h⟩
              · exact ⟨hx1.b_chunk, hx1.b_mate, hx1.b_after, hx1.b_min, hx1.b_at, h00, hx1.b_repl, hx.cap, hx.wd⟩
              · intro g hg y hy
                exact hit1 y (sortF_mem (keepF_mem (Nat.le_refl _) (splitR_mem (by rw [← hgs]; exact List.mem_map.2 ⟨g, hg, rfl⟩) hy)))
        · exact FnX.stepM (db_Step2 hok hl hl0 hn hf hw hs) rfl perm312 perm312 ⟨false, _, _, rfl, rfl, hr.load _, fun _ => ⟨{ x with xk := 0, xv := verD (r.peek (cellAtD (x.cap : Int) x.chunk x.mate x.i)), xd := 0, line := 3 }, Vv, Lv, Gv, Wv, ⟨hx1.b_chunk, hx1.b_mate, hx1.b_after, hx1.b_min, hx1.b_at, h00, hx1.b_repl, hx.cap, hx.wd⟩, .inl ⟨vs, l, rfl, hit1, .inr ⟨.inr (.inl rfl), hi0, hi1, hll⟩⟩⟩, fun h => nomatch h⟩
      · exact FnX.stepM (db_Step3 hok hl hl0 hn hf hw) rfl perm312 perm312 ⟨false, _, _, rfl, rfl, hr.load _, fun _ => ⟨{ x with xk := r.peek (cellAtD (x.cap : Int) x.chunk x.mate x.i + 1), line := 4 }, Vv, Lv, Gv, Wv, ⟨hx1.b_chunk, hx1.b_mate, hx1.b_after, hx1.b_min, hx1.b_at, (hr.pk _).up, hx1.b_repl, hx.cap, hx.wd⟩, .inl ⟨vs, l, rfl, hit1, .inr ⟨.inr (.inr rfl), hi0, hi1, hll⟩⟩⟩, fun h => nomatch h⟩
      · have hit2 : itB (k + 1) (l ++ [(⟨x.xk, x.xv, r.peek (cellAtD (x.cap : Int) x.chunk x.mate x.i + 2)⟩ : Itm)]) := fun y hy => by
          rcases List.mem_append.1 hy with hy | hy
          · exact hit1 y hy
          · rw [List.mem_singleton.1 hy]; exact ⟨hx1.b_xk, (hr.pk _).up⟩
        by_cases hcc : x.i + 1 < cellsD (x.cap : Int) x.mate
        · refine FnX.stepX (T := []) (db_Step4a (wv := wv) (ba := ba) (Vv := Vv) (Lv := Lv) (Gv := Gv) (Wv := Wv) (l := l) (vs := vs) (by omega) hok hl hl0 hn hf hw hcc) ?_ ?_
          · rw [List.append_nil]; exact perm312 (T := [_, _])
          · rintro v B ⟨Lv2, rfl, rfl⟩
            refine ⟨_, _, List.sublist_append_left _ _, perm312 (T := [_, _]), false, _, _, rfl, rfl, hr.load _, fun _ => ⟨_, Vv, Lv2, Gv, Wv, ?_, .inl ⟨vs, _, rfl, hit2, .inr ⟨.inl rfl, by show 0 ≤ x.i + 1; omega, hcc, by show ((l ++ [_]).length : Int) ≤ x.i + 1; rw [List.length_append, List.length_singleton]; omega⟩⟩⟩, fun h => nomatch h⟩
            exact ⟨hx1.b_chunk, hx1.b_mate, hx1.b_after, hx1.b_min, hx1.b_at, hx1.b_xk, hx1.b_repl, hx.cap, hx.wd⟩
        · refine FnX.stepX (T := []) (db_Step4b (wv := wv) (ba := ba) (Vv := Vv) (Lv := Lv) (Gv := Gv) (Wv := Wv) (l := l) (vs := vs) (by omega) hok hl hl0 hn hf hw hcc) ?_ ?_
          · rw [List.append_nil]; exact perm312 (T := [_, _])
          · rintro v B ⟨Lv2, Gv2, gs, rfl, hgs, rfl⟩
            have hsp := splitR_le (max 2 (min (x.cap : Int) 16) / 2) (keepF (sortF (l ++ [(⟨x.xk, x.xv, r.peek (cellAtD (x.cap : Int) x.chunk x.mate x.i + 2)⟩ : Itm)])) vs (sortF (l ++ [(⟨x.xk, x.xv, r.peek (cellAtD (x.cap : Int) x.chunk x.mate x.i + 2)⟩ : Itm)])).length)
            have hkl := keepF_le (sortF (l ++ [(⟨x.xk, x.xv, r.peek (cellAtD (x.cap : Int) x.chunk x.mate x.i + 2)⟩ : Itm)])) vs (sortF (l ++ [(⟨x.xk, x.xv, r.peek (cellAtD (x.cap : Int) x.chunk x.mate x.i + 2)⟩ : Itm)])).length
            have hsl := sortF_length (l ++ [(⟨x.xk, x.xv, r.peek (cellAtD (x.cap : Int) x.chunk x.mate x.i + 2)⟩ : Itm)])
            have hgl := congrArg List.length hgs
            rw [List.length_map] at hgl
            rw [List.length_append, List.length_singleton] at hsl
            refine ⟨_, raB ba wv _ :: raW wv n _ :: (dbB b Vv Lv2 Gv2 Wv _ :: _ :: _), List.sublist_append_left _ _, perm_lay, false, _, _, rfl, rfl, hr.load _, fun _ => ⟨_, Vv, Lv2, Gv2, Wv, ?_, .inr (.inl ⟨gs, rfl, rfl, by show 0 ≤ x.i + 1; omega, by show x.i + 1 ≤ 50; omega, by omega, by omega, ?_⟩)⟩, fun h => nomatch h⟩
            · exact ⟨hx1.b_chunk, hx1.b_mate, hx1.b_after, hx1.b_min, hx1.b_at, hx1.b_xk, hx1.b_repl, hx.cap, hx.wd⟩
            · intro g hg y hy
              exact hit2 y (sortF_mem (keepF_mem (Nat.le_refl _) (splitR_mem (by rw [← hgs]; exact List.mem_map.2 ⟨g, hg, rfl⟩) hy)))
  · have hok := hx.ok hk (by omega)
    have hwd := hx.wd
    refine FnX.stepX (T := []) (db_Step5 (wv := wv) (ba := ba) (Vv := Vv) (Lv := Lv) (Gv := Gv) (Wv := Wv) hok hl hl0 hn hf hw hg2 hx.wd) ?_ ?_
    · rw [List.append_nil]; exact perm312 (T := _ :: _)
    · have hmu := mul_bd (a := ((gs.map (·.1)).length : Int)) (c := (7 + 3 * (x.cap : Int))) (by rw [List.length_map]; omega) (by omega)
      rintro v B (⟨rfl, _, rfl⟩ | ⟨Wv2, cs, rfl, hc7, hcs, rfl⟩)
      · exact ⟨_, _, List.sublist_append_left _ _, perm312 (T := []), true, _, _, rfl, rfl, hr.add (by omega), (fun h => nomatch h), fun _ => ⟨_, Vv, Lv, Gv, Wv, rfl, hx1.b_chunk, hx1.b_mate, hx1.b_after, hx1.b_min, (hr.pk _).up, hx1.b_xk, hx1.b_repl, hx.cap, hx.wd⟩⟩
      · have hcl := csLen hcs
        have hcl2 := chunksF_le x.cap (r.peek 2) x.after x.min (gs.map (·.2))
        have hgl : (gs.map (·.2)).length = gs.length := List.length_map _
        have hcb := chunk_bd hcs (by omega) hx.cap (by omega)
        have hwl := wordsF_le (fun x hx => (hcb x hx).2.2) cs.length (Nat.le_refl _)
        have hwp := wordsF_pos (cs := cs) (n := cs.length) (by omega)
        refine ⟨_, raB ba wv _ :: raW wv n _ :: [dbB b Vv Lv Gv Wv2 _, _], List.sublist_append_left _ _, perm_lay (T := []), false, _, _, rfl, rfl, hr.add (by omega), fun _ => ⟨_, Vv, Lv, Gv, Wv2, ?_, .inr (.inr (.inl ⟨_, rfl, rfl, by show (0 : Int) ≤ 0; decide, by show (0 : Int) < _; omega, by omega, ?_⟩))⟩, fun h => nomatch h⟩
        · exact ⟨hx1.b_chunk, hx1.b_mate, hx1.b_after, hx1.b_min, (hr.pk _).up, hx1.b_xk, hx1.b_repl, hx.cap, hx.wd⟩
        · exact words_bd hcs hx.cap.2 hx1.b_min (fun g hg y hy => by
            obtain ⟨g', h1, rfl⟩ := List.mem_map.1 hg
            have := hgb g' h1 y hy
            exact ⟨this.1.up, this.2.up⟩) cs.length (Nat.le_refl _)
  · have hok := hx.ok hk (by omega)
    have hwd := hx.wd
    have hwi : gE ws x.i ∈ ws := gE_mem' (by omega)
    refine (FnX.ofM (db_Step6 (wv := wv) (ba := ba) (Vv := Vv) (Lv := Lv) (Gv := Gv) (Wv := Wv) hok hl hl0 hn hf hw ⟨hi0, hi1⟩) rfl).stepX (T := []) ?_ ?_
    · rw [List.append_nil]; exact perm312 (T := [_])
    · rintro v B ⟨rfl, rfl⟩
      by_cases h : (ws.length : Int) ≤ x.i + 1
      · rw [if_pos h]
        refine ⟨_, _, (List.sublist_append_left [_, _, _] [_]).trans (List.sublist_append_left _ _), perm312 (T := []), false, _, _, rfl, rfl, hr.store (hwb _ hwi).up, fun _ => ⟨_, Vv, Lv, Gv, Wv, ?_, .inr (.inr (.inr ⟨rfl, .inl rfl, by show 0 ≤ x.i + 1; omega, by show x.i + 1 ≤ 30000; omega⟩))⟩, fun h => nomatch h⟩
        exact ⟨hx1.b_chunk, hx1.b_mate, hx1.b_after, hx1.b_min, hx1.b_at, hx1.b_xk, hx1.b_repl, hx.cap, hx.wd⟩
      · rw [if_neg h]
        refine ⟨_, _, List.sublist_append_left _ _, perm312 (T := [_]), false, _, _, rfl, rfl, hr.store (hwb _ hwi).up, fun _ => ⟨_, Vv, Lv, Gv, Wv, ?_, .inr (.inr (.inl ⟨ws, rfl, hl, by show 0 ≤ x.i + 1; omega, by show x.i + 1 < _; omega, hwl, fun w hw => (hwb w hw).up⟩))⟩, fun h => nomatch h⟩
        exact ⟨hx1.b_chunk, hx1.b_mate, hx1.b_after, hx1.b_min, hx1.b_at, hx1.b_xk, hx1.b_repl, hx.cap, hx.wd⟩
  · have hok := hx.ok hk (by omega)
    have hwd := hx.wd
    rcases hl with hl | hl
    · exact FnX.stepM (T := []) (db_Step7 hok hl hl0 hn hf hw) rfl perm312 perm312 ⟨false, _, _, rfl, rfl, hr.swap hx1.b_at, fun _ => ⟨{ x with line := 8 }, Vv, Lv, Gv, Wv, ⟨hx1.b_chunk, hx1.b_mate, hx1.b_after, hx1.b_min, hx1.b_at, hx1.b_xk, hx1.b_repl, hx.cap, hx.wd⟩, .inr (.inr (.inr ⟨rfl, .inr rfl, hi0, hi1⟩))⟩, fun h => nomatch h⟩
    · exact FnX.stepM (T := []) (db_Step8 hok hl hl0 hn hf hw) rfl perm312 perm312 ⟨true, _, _, rfl, rfl, hr.load _, (fun h => nomatch h), fun _ => ⟨{ x with repl := r.peek (x.chunk + 5), line := 0 }, Vv, Lv, Gv, Wv, rfl, hx1.b_chunk, hx1.b_mate, hx1.b_after, hx1.b_min, hx1.b_at, hx1.b_xk, (hr.pk _).up, hx.cap, hx.wd⟩⟩
end Go.Proofs.YtbolanigdkgbdaaGreat
namespace Go.Proofs.YtbolanigdkgbdaaGreat
open Go Go.RowKit
set_option maxRecDepth 10000
set_option linter.unusedVariables false
set_option linter.unnecessarySimpa false
set_option linter.unusedSectionVars false
set_option maxHeartbeats 1000000
theorem bt_194 : buildTab Tryz.prog 194 = some (#[.int .i64 0, .int .i64 0, .pointer none, .pointer none, .pointer none, .bool false, .pointer none, .pointer none, .int .i64 0], [(0, 1), (1, 1), (2, 1), (3, 1), (4, 1), (5, 1), (6, 1), (7, 1), (8, 1)]) := by kernel_rfl
theorem et_187 : elemTab Tryz.prog 187 = some (1, 8) := by kernel_rfl
theorem fo_163_0 : fieldOff? Tryz.prog 163 0 = some 0 := by kernel_rfl
theorem fo_163_1 : fieldOff? Tryz.prog 163 1 = some 4 := by kernel_rfl
theorem fo_163_2 : fieldOff? Tryz.prog 163 2 = some 5 := by kernel_rfl
theorem sz_161 : (Tryz.prog.info? 161).map (·.size) = some 1 := by kernel_rfl
abbrev ptS (b : Nat) : SV := ⟨.pointer (some ⟨b, 0, none⟩), rfl⟩
abbrev ptO (o : Option Nat) : Value := .pointer (match o with | none => none | some b => some ⟨b, 0, none⟩)
def DrO (dv : Value) (l0 : List Int) (Dv : Value) (l : List Int) : Prop := ∀ w : World, (rdE zK dv l0).holds w → RdIs w Dv zK.sz l.length (zK.all l)
section
variable [Df] {w0 : World} {N H : Hp} {dv Dv : Value} {l0 l : List Int}
theorem drS (h : DrO dv l0 Dv l) : RdIn (fun w => St w0 w [rdE zK dv l0] N H) Dv zK.sz l.length (zK.all l) := fun w hw => h w (hw.hasS _ (.head _))
theorem DrO.cut (h : DrO dv l0 Dv l) (lo : Nat) (h1 : lo ≤ l.length) : DrO dv l0 (cutV Dv zK.sz lo l.length) ((l.drop lo).take (l.length - lo)) := fun w hw => RdIn.cutE (C := fun w => (rdE zK dv l0).holds w) (k := zK) h lo l.length h1 (Nat.le_refl _) w hw
theorem DrO.refl : DrO dv l0 dv l0 := fun w hw => hw
theorem Aprt.ofPick {S A T : Hp} (h : Pick N A T) : Aprt w0 S N H S A := fun w hw k hk hA => hw.apart k hk (by
  rw [keys_append]; exact List.mem_append_left _ ((h.perm.filterMap Ent.key).mem_iff.2 (by
    show k ∈ keys (A ++ T); rw [keys_append]; exact List.mem_append_left _ hA)))
end
structure Me where
  th : Int
  cap : Nat
  wd : Int
  ver : Int
  e : Int
abbrev meC (Dv Fv : Value) (x : Me) : Array Value := #[.int .i64 x.th, .int .i64 (x.cap : Int), .int .i64 x.wd, .int .i64 x.ver, Dv, Fv, .int .i64 x.e]
abbrev meB (b : Nat) (Dv Fv : Value) (x : Me) : Ent := .blk b (.cells (meC Dv Fv x) 163)
abbrev frC (ch pt : Int) (lp : Nat) (sp np bp pp : Option Nat) (rp : Int) : Array Value := #[.int .i64 ch, .int .i64 pt, .pointer (some ⟨lp, 0, none⟩), ptO sp, ptO np, .bool false, ptO bp, ptO pp, .int .i64 rp]
abbrev frB (b : Nat) (ch pt : Int) (lp : Nat) (sp np bp pp : Option Nat) (rp : Int) : Ent := .blk b (.cells (frC ch pt lp sp np bp pp rp) 194)
theorem me_begin {mb : Nat} {dv Dv Fv : Value} {l0 l : List Int} {x : Me} {fs : List Nat} {at_ : Int} (hD : DrO dv l0 Dv l) (hf : fs.length ≤ 1000000) : FnX Tryz.prog 150 [.pointer (some ⟨mb, 0, none⟩), .int .i64 at_] ([rdE zK dv l0]) ([meB mb Dv Fv x, rowE sK 187 Fv (fs.map ptS)]) (fun v N => ∃ vb fb lp, v = .tuple #[] ∧ N = [rowE sK 187 vb (([] ++ fs.map ptS) ++ [ptS fb]), frB fb at_ 1 lp none none none none 0, ddB lp (⟨x.th, (x.cap : Int), x.wd, x.ver, at_, (decide (0 < (l.length : Int)) && decide (gE l 0 % 2 = 1)), false, 1, 0, 0, 0, 0, false, 0⟩ : Dd), meB mb Dv vb x]) := by
 refine FnX.enter Tryz.func150 (by kernel_rfl) rfl (n := 41) rfl rfl (fun w df hds how => ?_)
 refine U ?_
 refine eA rfl (R.lenRd Tryz.underlying25 (.t rfl) (drS hD)) ?_
 refine eA rfl (R.gtr (.t rfl) .c) ?_
 refine U ?_
 refine eA rfl (R.indexRd Tryz.underlying25 sz_3 (.s rfl) (drS hD) .c (fun hg => (by ((simp [-List.length_eq_zero_iff] at hg; omega))))) ?_
 refine eA rfl (R.loadRd Tryz.underlying3 rfl (.s rfl) (drS hD) (fun hg => by exact Ek.get0 rfl (by ((simp [-List.length_eq_zero_iff] at hg; omega))))) ?_
 refine eA rfl (R.andV (j := 1) (m := 2) (.s rfl) .c rfl (by decide) (by decide) (by decide) (fun z hz => IntWalk.i64_in z (by omega))) ?_
 refine Z ?_
 refine At.dag [tt 0, tt 1, tt 2, tt 3, tt 6, tt 7, tt 8, tt 9, tt 11, tt 12] 11 (mT 21 [0, 1, 2, 3, 6, 7, 8, 9, 11, 12]) ([rdE zK dv l0]) (keepOf sl) (by kernel_rfl) (by kernel_rfl) (fun G hnode hdone => ?_)
 have g0 : ∀ (va : Value) (lp : Nat) (fb : Nat) (vl : Value) (vb : Value), At w 41 [rdE zK dv l0] [(21, pt mb 0), (22, pt mb 0), (23, pt mb 0), (24, pt mb 5), (25, true, Fv), (26, true, va), (27, iv at_), (28, pt mb 0), (29, pt mb 0), (30, pt mb 0), (31, true, .agg #[.int .i64 x.th, .int .i64 (x.cap : Int), .int .i64 x.wd, .int .i64 x.ver]), (32, iv at_), (33, bv (decide (0 < (l.length : Int)) && decide (gE l 0 % 2 = 1))), (34, pt lp 0), (35, true, .agg #[.int .i64 at_, .int .i64 1, .pointer (some ⟨lp, 0, none⟩), .pointer none, .pointer none, .bool false, .pointer none, .pointer none, .int .i64 0]), (36, pt fb 0), (37, true, vl), (38, true, vb), (39, pt mb 0), (40, pt mb 5), (0, pt mb 0), (1, iv at_), (4, bv (decide (0 < (l.length : Int)) && decide (gE l 0 % 2 = 1)))] ([rowE sK 187 vb (([] ++ fs.map ptS) ++ [ptS fb]), frB fb at_ 1 lp none none none none 0, ddB lp (⟨x.th, (x.cap : Int), x.wd, x.ver, at_, (decide (0 < (l.length : Int)) && decide (gE l 0 % 2 = 1)), false, 1, 0, 0, 0, 0, false, 0⟩ : Dd), meB mb Dv vb x, rowE sK 187 Fv (fs.map ptS)]) ([]) (G 0 (mF 21 [])) := fun va lp fb vl vb => by
  refine hdone _ _ _ (by kernel_rfl) ?_
  exact At.finalX0 (N' := [rowE sK 187 vb (([] ++ fs.map ptS) ++ [ptS fb]), frB fb at_ 1 lp none none none none 0, ddB lp (⟨x.th, (x.cap : Int), x.wd, x.ver, at_, (decide (0 < (l.length : Int)) && decide (gE l 0 % 2 = 1)), false, 1, 0, 0, 0, 0, false, 0⟩ : Dd), meB mb Dv vb x]) hds how rfl sl (⟨vb, fb, lp, rfl, rfl⟩) _ (.inr rfl)
 have g1 : ∀ (va : Value) (lp : Nat) (fb : Nat) (vl : Value) (vb : Value), At w 41 [rdE zK dv l0] [(21, pt mb 0), (22, pt mb 0), (23, pt mb 0), (24, pt mb 5), (25, true, Fv), (26, true, va), (27, iv at_), (28, pt mb 0), (29, pt mb 0), (30, pt mb 0), (31, true, .agg #[.int .i64 x.th, .int .i64 (x.cap : Int), .int .i64 x.wd, .int .i64 x.ver]), (32, iv at_), (33, bv (decide (0 < (l.length : Int)) && decide (gE l 0 % 2 = 1))), (34, pt lp 0), (35, true, .agg #[.int .i64 at_, .int .i64 1, .pointer (some ⟨lp, 0, none⟩), .pointer none, .pointer none, .bool false, .pointer none, .pointer none, .int .i64 0]), (36, pt fb 0), (37, true, vl), (38, true, vb), (39, pt mb 0), (40, pt mb 5), (0, pt mb 0), (1, iv at_), (4, bv (decide (0 < (l.length : Int)) && decide (gE l 0 % 2 = 1)))] ([rowE sK 187 vb (([] ++ fs.map ptS) ++ [ptS fb]), frB fb at_ 1 lp none none none none 0, ddB lp (⟨x.th, (x.cap : Int), x.wd, x.ver, at_, (decide (0 < (l.length : Int)) && decide (gE l 0 % 2 = 1)), false, 1, 0, 0, 0, 0, false, 0⟩ : Dd), meB mb Dv Fv x, rowE sK 187 Fv (fs.map ptS)]) ([]) (G 1 (mF 21 [20])) := fun va lp fb vl vb => by
  refine hnode _ _ _ _ [(20, [], 0, (mF 21 []))] (by kernel_rfl) kz ?_
  ·
   refine At.rowOne (v := vb) (M1) (fun h1v => ?_)
   refine At.st1 rfl rfl sz_161 (.t rfl) (.t rfl) h1v rfl (.n U3) ⟨kz, ?_⟩
   refine W ?_
   exact wk (g0 va lp fb vl vb)
 have g2 : ∀ (va : Value) (lp : Nat) (fb : Nat) (vl : Value), At w 41 [rdE zK dv l0] [(21, pt mb 0), (22, pt mb 0), (23, pt mb 0), (24, pt mb 5), (25, true, Fv), (26, true, va), (27, iv at_), (28, pt mb 0), (29, pt mb 0), (30, pt mb 0), (31, true, .agg #[.int .i64 x.th, .int .i64 (x.cap : Int), .int .i64 x.wd, .int .i64 x.ver]), (32, iv at_), (33, bv (decide (0 < (l.length : Int)) && decide (gE l 0 % 2 = 1))), (34, pt lp 0), (35, true, .agg #[.int .i64 at_, .int .i64 1, .pointer (some ⟨lp, 0, none⟩), .pointer none, .pointer none, .bool false, .pointer none, .pointer none, .int .i64 0]), (36, pt fb 0), (37, true, vl), (0, pt mb 0), (1, iv at_), (4, bv (decide (0 < (l.length : Int)) && decide (gE l 0 % 2 = 1)))] ([rowE sK 187 va ([] ++ fs.map ptS), rowE sK 187 vl ([ptS fb]), frB fb at_ 1 lp none none none none 0, ddB lp (⟨x.th, (x.cap : Int), x.wd, x.ver, at_, (decide (0 < (l.length : Int)) && decide (gE l 0 % 2 = 1)), false, 1, 0, 0, 0, 0, false, 0⟩ : Dd), meB mb Dv Fv x, rowE sK 187 Fv (fs.map ptS)]) ([]) (G 4 (mF 21 [17, 18, 19, 20])) := fun va lp fb vl => by
  refine hnode _ _ _ _ [(17, [tt 18, tt 19], 1, (mF 21 [20]))] (by kernel_rfl) kz ?_
  ·
   refine At.app (k := sK) rfl rfl rfl Tryz.underlying161 et_187 (.t rfl) (.t rfl) (fun _ => by (exact U0)) (wS M2) (by (simp <;> omega)) (fun v1 => ⟨kz, ?_⟩)
   refine W ?_
   exact wk (g1 va lp fb vl v1)
 have g3 : ∀ (va : Value) (lp : Nat) (fb : Nat), At w 41 [rdE zK dv l0] [(21, pt mb 0), (22, pt mb 0), (23, pt mb 0), (24, pt mb 5), (25, true, Fv), (26, true, va), (27, iv at_), (28, pt mb 0), (29, pt mb 0), (30, pt mb 0), (31, true, .agg #[.int .i64 x.th, .int .i64 (x.cap : Int), .int .i64 x.wd, .int .i64 x.ver]), (32, iv at_), (33, bv (decide (0 < (l.length : Int)) && decide (gE l 0 % 2 = 1))), (34, pt lp 0), (35, true, .agg #[.int .i64 at_, .int .i64 1, .pointer (some ⟨lp, 0, none⟩), .pointer none, .pointer none, .bool false, .pointer none, .pointer none, .int .i64 0]), (36, pt fb 0), (0, pt mb 0), (1, iv at_), (4, bv (decide (0 < (l.length : Int)) && decide (gE l 0 % 2 = 1)))] ([rowE sK 187 va ([] ++ fs.map ptS), frB fb at_ 1 lp none none none none 0, ddB lp (⟨x.th, (x.cap : Int), x.wd, x.ver, at_, (decide (0 < (l.length : Int)) && decide (gE l 0 % 2 = 1)), false, 1, 0, 0, 0, 0, false, 0⟩ : Dd), meB mb Dv Fv x, rowE sK 187 Fv (fs.map ptS)]) ([]) (G 5 (mF 21 [16, 17, 18, 19, 20])) := fun va lp fb => by
  refine hnode _ _ _ _ [(16, [], 4, (mF 21 [17, 18, 19, 20]))] (by kernel_rfl) kz ?_
  ·
   refine At.lit (k := sK) rfl rfl rfl Tryz.underlying161 et_187 (.k rfl .nil) (.cons (y := ptS fb) rfl .nil) rfl rfl rfl (fun v1 => ⟨kz, ?_⟩)
   refine W ?_
   refine At.perm (List.Perm.swap _ _ _) ?_
   exact wk (g2 va lp fb v1)
 have g4 : ∀ (va : Value) (lp : Nat), At w 41 [rdE zK dv l0] [(21, pt mb 0), (22, pt mb 0), (23, pt mb 0), (24, pt mb 5), (25, true, Fv), (26, true, va), (27, iv at_), (28, pt mb 0), (29, pt mb 0), (30, pt mb 0), (31, true, .agg #[.int .i64 x.th, .int .i64 (x.cap : Int), .int .i64 x.wd, .int .i64 x.ver]), (32, iv at_), (33, bv (decide (0 < (l.length : Int)) && decide (gE l 0 % 2 = 1))), (34, pt lp 0), (35, true, .agg #[.int .i64 at_, .int .i64 1, .pointer (some ⟨lp, 0, none⟩), .pointer none, .pointer none, .bool false, .pointer none, .pointer none, .int .i64 0]), (0, pt mb 0), (1, iv at_), (4, bv (decide (0 < (l.length : Int)) && decide (gE l 0 % 2 = 1)))] ([rowE sK 187 va ([] ++ fs.map ptS), ddB lp (⟨x.th, (x.cap : Int), x.wd, x.ver, at_, (decide (0 < (l.length : Int)) && decide (gE l 0 % 2 = 1)), false, 1, 0, 0, 0, 0, false, 0⟩ : Dd), meB mb Dv Fv x, rowE sK 187 Fv (fs.map ptS)]) ([]) (G 6 (mF 21 [15, 16, 17, 18, 19, 20])) := fun va lp => by
  refine hnode _ _ _ _ [(15, [], 5, (mF 21 [16, 17, 18, 19, 20]))] (by kernel_rfl) kz ?_
  ·
   refine At.box rfl rfl rfl (.t rfl) (fun b1 hb1 => ⟨kz, ?_⟩)
   refine W ?_
   refine At.perm (List.Perm.swap _ _ _) ?_
   exact wk (g3 va lp b1)
 have g5 : ∀ (va : Value), At w 41 [rdE zK dv l0] [(21, pt mb 0), (22, pt mb 0), (23, pt mb 0), (24, pt mb 5), (25, true, Fv), (26, true, va), (27, iv at_), (28, pt mb 0), (29, pt mb 0), (30, pt mb 0), (31, true, .agg #[.int .i64 x.th, .int .i64 (x.cap : Int), .int .i64 x.wd, .int .i64 x.ver]), (32, iv at_), (33, bv (decide (0 < (l.length : Int)) && decide (gE l 0 % 2 = 1))), (0, pt mb 0), (1, iv at_), (4, bv (decide (0 < (l.length : Int)) && decide (gE l 0 % 2 = 1)))] ([rowE sK 187 va ([] ++ fs.map ptS), meB mb Dv Fv x, rowE sK 187 Fv (fs.map ptS)]) ([]) (G 8 (mF 21 [13, 14, 15, 16, 17, 18, 19, 20])) := fun va => by
  refine hnode _ _ _ _ [(13, [tt 14], 6, (mF 21 [15, 16, 17, 18, 19, 20]))] (by kernel_rfl) kz ?_
  ·
   refine cP rfl rfl rfl (.k rfl (.k rfl (.k rfl .nil))) rfl (dd_New (a := x.th) (b := (x.cap : Int)) (c := x.wd) (d := x.ver) (chunk := at_) (dr := (decide (0 < (l.length : Int)) && decide (gE l 0 % 2 = 1)))) (fun _ h => nomatch h) (fun v N1 H1 hR => ?_); obtain ⟨lp, rfl, rfl, rfl⟩ := hR; refine ⟨rfl, kz, ?_⟩
   refine sC rfl kz (R.build bt_194 (.k rfl (.kc (.k rfl .nil))) (.cons rfl (.cons rfl (.cons rfl .nil))) rfl) ?_
   refine W ?_
   refine At.perm (List.Perm.swap _ _ _) ?_
   exact wk (g4 va lp)
 have g6 : ∀ (va : Value), At w 41 [rdE zK dv l0] [(21, pt mb 0), (22, pt mb 0), (23, pt mb 0), (24, pt mb 5), (25, true, Fv), (26, true, va), (27, iv at_), (28, pt mb 0), (29, pt mb 0), (30, pt mb 0), (32, iv at_), (33, bv (decide (0 < (l.length : Int)) && decide (gE l 0 % 2 = 1))), (0, pt mb 0), (1, iv at_), (4, bv (decide (0 < (l.length : Int)) && decide (gE l 0 % 2 = 1)))] ([rowE sK 187 va ([] ++ fs.map ptS), meB mb Dv Fv x, rowE sK 187 Fv (fs.map ptS)]) ([]) (G 9 (mF 21 [10, 13, 14, 15, 16, 17, 18, 19, 20])) := fun va => by
  refine hnode _ _ _ _ [(10, [], 8, (mF 21 [13, 14, 15, 16, 17, 18, 19, 20]))] (by kernel_rfl) kz ?_
  ·
   refine WD ?_
   exact wk (g5 va)
 have g7 : ∀ (_ : True), At w 41 [rdE zK dv l0] [(21, pt mb 0), (22, pt mb 0), (23, pt mb 0), (24, pt mb 5), (25, true, Fv), (27, iv at_), (28, pt mb 0), (29, pt mb 0), (30, pt mb 0), (31, true, .agg #[.int .i64 x.th, .int .i64 (x.cap : Int), .int .i64 x.wd, .int .i64 x.ver]), (32, iv at_), (33, bv (decide (0 < (l.length : Int)) && decide (gE l 0 % 2 = 1))), (0, pt mb 0), (1, iv at_), (4, bv (decide (0 < (l.length : Int)) && decide (gE l 0 % 2 = 1)))] ([meB mb Dv Fv x, rowE sK 187 Fv (fs.map ptS)]) ([]) (G 9 (mF 21 [5, 13, 14, 15, 16, 17, 18, 19, 20])) := fun _ => by
  refine hnode _ _ _ _ [(5, [], 8, (mF 21 [13, 14, 15, 16, 17, 18, 19, 20]))] (by kernel_rfl) kz ?_
  ·
   (refine At.nilRow sK 187 ?_; refine At.app (k := sK) rfl rfl rfl Tryz.underlying161 et_187 .c (.t rfl) (fun _ => by (exact U0)) (wS M3) (by (simp <;> omega)) (fun v1 => ⟨kz, ?_⟩))
   refine W ?_
   exact wk (g5 v1)
 have g8 : ∀ (_ : True), At w 41 [rdE zK dv l0] [(21, pt mb 0), (22, pt mb 0), (23, pt mb 0), (24, pt mb 5), (25, true, Fv), (27, iv at_), (28, pt mb 0), (29, pt mb 0), (30, pt mb 0), (32, iv at_), (33, bv (decide (0 < (l.length : Int)) && decide (gE l 0 % 2 = 1))), (0, pt mb 0), (1, iv at_), (4, bv (decide (0 < (l.length : Int)) && decide (gE l 0 % 2 = 1)))] ([meB mb Dv Fv x, rowE sK 187 Fv (fs.map ptS)]) ([]) (G 10 (mF 21 [5, 10, 13, 14, 15, 16, 17, 18, 19, 20])) := fun _ => by
  refine hnode _ _ _ _ [(5, [], 9, (mF 21 [10, 13, 14, 15, 16, 17, 18, 19, 20])), (10, [], 9, (mF 21 [5, 13, 14, 15, 16, 17, 18, 19, 20]))] (by kernel_rfl) kz ?_
  refine ⟨?_, ?_⟩
  ·
   (refine At.nilRow sK 187 ?_; refine At.app (k := sK) rfl rfl rfl Tryz.underlying161 et_187 .c (.t rfl) (fun _ => by (exact U0)) (wS M3) (by (simp <;> omega)) (fun v1 => ⟨kz, ?_⟩))
   refine W ?_
   exact wk (g6 v1)
  ·
   refine WD ?_
   exact wk (g7 trivial)
 have g9 : ∀ (_ : True), At w 41 [rdE zK dv l0] [(21, pt mb 0), (22, pt mb 0), (23, pt mb 0), (24, pt mb 5), (27, iv at_), (28, pt mb 0), (29, pt mb 0), (30, pt mb 0), (31, true, .agg #[.int .i64 x.th, .int .i64 (x.cap : Int), .int .i64 x.wd, .int .i64 x.ver]), (32, iv at_), (33, bv (decide (0 < (l.length : Int)) && decide (gE l 0 % 2 = 1))), (0, pt mb 0), (1, iv at_), (4, bv (decide (0 < (l.length : Int)) && decide (gE l 0 % 2 = 1)))] ([meB mb Dv Fv x, rowE sK 187 Fv (fs.map ptS)]) ([]) (G 10 (mF 21 [4, 5, 13, 14, 15, 16, 17, 18, 19, 20])) := fun _ => by
  refine hnode _ _ _ _ [(4, [], 9, (mF 21 [5, 13, 14, 15, 16, 17, 18, 19, 20]))] (by kernel_rfl) kz ?_
  ·
   refine WD ?_
   exact wk (g7 trivial)
 have g10 : ∀ (_ : True), At w 41 [rdE zK dv l0] [(21, pt mb 0), (22, pt mb 0), (23, pt mb 0), (24, pt mb 5), (27, iv at_), (28, pt mb 0), (29, pt mb 0), (30, pt mb 0), (32, iv at_), (33, bv (decide (0 < (l.length : Int)) && decide (gE l 0 % 2 = 1))), (0, pt mb 0), (1, iv at_), (4, bv (decide (0 < (l.length : Int)) && decide (gE l 0 % 2 = 1)))] ([meB mb Dv Fv x, rowE sK 187 Fv (fs.map ptS)]) ([]) (G 11 (mT 21 [0, 1, 2, 3, 6, 7, 8, 9, 11, 12])) := fun _ => by
  refine hnode _ _ _ _ [(4, [], 10, (mF 21 [5, 10, 13, 14, 15, 16, 17, 18, 19, 20])), (10, [], 10, (mF 21 [4, 5, 13, 14, 15, 16, 17, 18, 19, 20]))] (by kernel_rfl) kz ?_
  refine ⟨?_, ?_⟩
  ·
   refine WD ?_
   exact wk (g8 trivial)
  ·
   refine WD ?_
   exact wk (g9 trivial)
 refine W ?_
 exact wk (g10 trivial)
end Go.Proofs.YtbolanigdkgbdaaGreat
namespace Go.Proofs.YtbolanigdkgbdaaGreat
open Go Go.RowKit
set_option maxRecDepth 10000
set_option linter.unusedVariables false
set_option linter.unnecessarySimpa false
set_option linter.unusedSectionVars false
set_option maxHeartbeats 1000000
theorem bt_163 : buildTab Tryz.prog 163 = some (#[.int .i64 0, .int .i64 0, .int .i64 0, .int .i64 0, .slice none 0 0, .slice none 0 0, .int .i64 0], [(0, 4), (4, 1), (5, 1), (6, 1)]) := by kernel_rfl
theorem fo_194_1 : fieldOff? Tryz.prog 194 1 = some 1 := by kernel_rfl
theorem fo_194_2 : fieldOff? Tryz.prog 194 2 = some 2 := by kernel_rfl
theorem fo_194_7 : fieldOff? Tryz.prog 194 7 = some 7 := by kernel_rfl
theorem fo_194_8 : fieldOff? Tryz.prog 194 8 = some 8 := by kernel_rfl
theorem sz_192 : (Tryz.prog.info? 192).map (·.size) = some 1 := by kernel_rfl
theorem me_New {dv Dv : Value} {l0 l : List Int} {th wd ver at_ : Int} {cap : Nat} (hD : DrO dv l0 Dv l) : FnX Tryz.prog 119 [.agg #[.int .i64 th, .int .i64 (cap : Int), .int .i64 wd, .int .i64 ver], .int .i64 at_, Dv] ([rdE zK dv l0]) ([]) (fun v N => ∃ mb vb fb lp dr, v = .pointer (some ⟨mb, 0, none⟩) ∧ N = [rowE sK 187 vb ([ptS fb]), frB fb at_ 1 lp none none none none 0, ddB lp (⟨th, (cap : Int), wd, ver, at_, dr, false, 1, 0, 0, 0, 0, false, 0⟩ : Dd), meB mb Dv vb (⟨th, cap, wd, ver, 0⟩ : Me)]) := by
 refine FnX.enter Tryz.func119 (by kernel_rfl) rfl (n := 16) rfl rfl (fun w df hds how => ?_)
 refine At.sliceForm (drS hD) (fun sA scap hsv _ _ => ?_)
 subst hsv
 refine W ?_
 refine At.box rfl rfl rfl (.t rfl) (fun b1 hb1 => ⟨.all, ?_⟩)
 refine W ?_
 refine eA rfl (R.build bt_163 (.k rfl (.k rfl .nil)) (.cons rfl (.cons rfl .nil)) rfl) ?_
 refine At.box rfl rfl rfl (.t rfl) (fun b2 hb2 => ⟨.all, ?_⟩)
 refine W ?_
 refine At.nilRow sK 187 ?_; refine At.perm (List.Perm.swap _ _ _) ?_; refine cX rfl rfl rfl (.k rfl (.k rfl .nil)) rfl (.take (.take .nil)) (.cons (rS M0) .nil) (me_begin (mb := b2) (Dv := (.slice sA l.length scap)) (x := (⟨th, cap, wd, ver, 0⟩ : Me)) (fs := []) (at_ := at_) hD (by simp)) (Aprt.ofPick (.take (.take .nil))) (fun v B hR => ⟨.all, ?_⟩); obtain ⟨vb, fb, lp, rfl, rfl⟩ := hR
 refine W ?_
 exact At.finalX (N' := [rowE sK 187 vb ([ptS fb]), frB fb at_ 1 lp none none none none 0, ddB lp (⟨th, (cap : Int), wd, ver, at_, _, false, 1, 0, 0, 0, 0, false, 0⟩ : Dd), meB b2 (.slice sA l.length scap) vb (⟨th, cap, wd, ver, 0⟩ : Me)]) hds how rfl (.t rfl) sl (⟨b2, vb, fb, lp, _, rfl, rfl⟩)
theorem fr_splice {fb lp : Nat} {sp np bp pp : Option Nat} {ch pt rp th wd ver rp2 : Int} {cap : Nat} {d : Dd} : FnX Tryz.prog 145 [.pointer (some ⟨fb, 0, none⟩), .agg #[.int .i64 th, .int .i64 (cap : Int), .int .i64 wd, .int .i64 ver], .int .i64 rp2] ([]) ([frB fb ch pt lp sp np bp pp rp, ddB lp d]) (fun v N => ∃ pb, v = .tuple #[] ∧ N = [frB fb ch 6 lp sp np bp (some pb) rp2, ddB lp d, dpB pb (⟨th, (cap : Int), wd, ver, d.ch1, d.ch2, rp2, 1, 0, 0, 0, 0, 0⟩ : Dp)]) := by
 refine FnX.enter Tryz.func145 (by kernel_rfl) rfl (n := 33) rfl rfl (fun w df hds how => ?_)
 refine W ?_
 refine At.box rfl rfl rfl (.t rfl) (fun b1 hb1 => ⟨.all, ?_⟩)
 refine W ?_
 refine At.callVR rfl rfl rfl (.k rfl .nil) (.blk (.st M2) .nil) (fun hg => dd_Chunks (b := lp) (x := d)) .all ?_
 refine W ?_
 refine cP rfl rfl rfl (.k rfl (.k rfl (.k rfl (.k rfl .nil)))) rfl (dp_New (a := th) (b := (cap : Int)) (c := wd) (d := ver) (chunk := d.ch1) (mate := d.ch2) (repl := rp2)) (fun _ h => nomatch h) (fun v N1 H1 hR => ?_); obtain ⟨pb, rfl, rfl, rfl⟩ := hR; refine ⟨rfl, .all, ?_⟩
 refine W ?_
 refine At.st1 rfl rfl sz_3 (.t rfl) (.t rfl) rfl rfl (.n U2) ⟨.all, ?_⟩
 refine W ?_
 refine At.st1 rfl rfl sz_3 (.t rfl) .c rfl rfl (.n U2) ⟨.all, ?_⟩
 refine W ?_
 refine At.st1 rfl rfl sz_192 (.t rfl) (.t rfl) rfl rfl (.n U2) ⟨.all, ?_⟩
 refine W ?_
 refine At.fewer (N1 := [dpB pb (⟨th, (cap : Int), wd, ver, d.ch1, d.ch2, rp2, 1, 0, 0, 0, 0, 0⟩ : Dp), frB fb ch 6 lp sp np bp (some pb) rp2, ddB lp d]) sl (List.perm_append_comm (l₁ := [_]) (l₂ := [_, _])) (N' := [frB fb ch 6 lp sp np bp (some pb) rp2, ddB lp d, dpB pb (⟨th, (cap : Int), wd, ver, d.ch1, d.ch2, rp2, 1, 0, 0, 0, 0, 0⟩ : Dp)]) ?_
 exact At.finalX0 (N' := [frB fb ch 6 lp sp np bp (some pb) rp2, ddB lp d, dpB pb (⟨th, (cap : Int), wd, ver, d.ch1, d.ch2, rp2, 1, 0, 0, 0, 0, 0⟩ : Dp)]) hds how rfl (List.Sublist.refl _) (⟨pb, rfl, rfl⟩) _ (.inr rfl)
end Go.Proofs.YtbolanigdkgbdaaGreat
namespace Go.Proofs.YtbolanigdkgbdaaGreat
open Go Go.RowKit
set_option maxRecDepth 10000
set_option linter.unusedVariables false
set_option linter.unnecessarySimpa false
set_option linter.unusedSectionVars false
set_option maxHeartbeats 1000000
theorem fo_194_4 : fieldOff? Tryz.prog 194 4 = some 4 := by kernel_rfl
theorem fo_194_6 : fieldOff? Tryz.prog 194 6 = some 6 := by kernel_rfl
theorem sz_187 : (Tryz.prog.info? 187).map (·.size) = some 1 := by kernel_rfl
theorem sz_190 : (Tryz.prog.info? 190).map (·.size) = some 1 := by kernel_rfl
theorem sz_191 : (Tryz.prog.info? 191).map (·.size) = some 1 := by kernel_rfl
section
variable [Df] {w0 : World} {n : Nat} {S N H : Hp} {l : Fr}
theorem At.imp {N' : Hp} {e e' : Ent} {X : Act → World → Prop} (hu : UpL N e e' N') (hk : e'.key = e.key) (hi : ∀ w, e.holds w → e'.holds w) (h : At w0 n S l N' H X) : At w0 n S l N H X := fun a w ha hw =>
  h a w ha (hw.upd (.n hu) hk (hi w (hw.has e (List.mem_append_left _ hu.mem))) rfl rfl rfl (Nat.le_refl _) (fun _ _ _ => rfl))
theorem rowPop {w : World} {E : TypeId} {g q cap : Nat} {xs : List SV} (hx : xs.length = q) (hq : 0 < q) (h : (rowE sK E (.slice (some ⟨g, 0, none⟩) q cap) xs).holds w) : (rowE sK E (.slice (some ⟨g, 0, none⟩) (q - 1) cap) (xs.take (q - 1))).holds w := by
  obtain ⟨m, rfl⟩ : ∃ m, q = m + 1 := ⟨q - 1, by omega⟩
  rw [Nat.add_sub_cancel]
  have hl : (xs.take m).length = m := by rw [List.length_take]; omega
  have h1 : w.ownsRow 0 E 1 (.slice (some ⟨g, 0, none⟩) (m + 1) cap) (m + 1) (sK.all (xs.take m) ++ sK.all (xs.drop m)) := by
    have h2 : w.ownsRow 0 E 1 (.slice (some ⟨g, 0, none⟩) (m + 1) cap) xs.length (sK.all xs) := h
    rw [hx] at h2
    rw [← Ek.all_append, List.take_append_drop]; exact h2
  have h3 := ownsRow_pop (by rw [Ek.all_length, hl]) h1
  show w.ownsRow 0 E 1 _ (xs.take m).length (sK.all (xs.take m))
  rw [hl]; exact h3
end
theorem me_needs0 {mb fb lp ba n : Nat} {wv Dv Fv : Value} {x : Me} {sp bp pp : Option Nat} {ch pt rp : Int} {d : Dd} {r : Rr} (hn : r.w.length = n) (hN : n ≤ 1000000) (hf : r.few) (hw : r.mid 1152921504606846976) : FnX Tryz.prog 146 [.pointer (some ⟨mb, 0, none⟩), .pointer (some ⟨ba, 0, none⟩), .pointer (some ⟨fb, 0, none⟩)] ([]) ([meB mb Dv Fv x, frB fb ch pt lp sp none bp pp rp, raB ba wv r, raW wv n r]) (fun v N => ∃ nb, v = .tuple #[] ∧ N = [dnB nb (.slice none 0 0) (⟨x.th, (x.cap : Int), x.wd, x.ver, 0, 1, 0, 0, []⟩ : Dn), rowE zK 3 (.slice none 0 0) [], meB mb Dv Fv x, frB fb ch pt lp sp (some nb) bp pp rp, raB ba wv (r.load 1), raW wv n (r.load 1)]) := by
 refine FnX.enter Tryz.func146 (by kernel_rfl) rfl (n := 58) rfl rfl (fun w df hds how => ?_)
 refine W ?_
 refine eA rfl (R.eqlNilP Tryz.underlying190 (.t rfl)) ?_
 refine W ?_
 refine cM rfl rfl rfl (.k rfl (.kc .nil)) rfl (.n (.skip (.skip (.take (.take .nil))))) .nil (r_Load (r := r) (i := 1) hn hN hf) keysRa .nil ⟨.all, ?_⟩
 refine W ?_
 refine cP rfl rfl rfl (.k rfl .nil) rfl (dn_New (a := x.th) (b := (x.cap : Int)) (c := x.wd) (d := x.ver)) (fun _ h => nomatch h) (fun v N1 H1 hR => ?_); obtain ⟨nb, rfl, rfl, rfl⟩ := hR; refine ⟨rfl, .all, ?_⟩
 refine W ?_
 refine At.st1 rfl rfl sz_190 (.t rfl) (.t rfl) rfl rfl (.n U3) ⟨.all, ?_⟩
 refine W ?_
 exact At.finalX0 (N' := [dnB nb (.slice none 0 0) (⟨x.th, (x.cap : Int), x.wd, x.ver, 0, 1, 0, 0, []⟩ : Dn), rowE zK 3 (.slice none 0 0) [], meB mb Dv Fv x, frB fb ch pt lp sp (some nb) bp pp rp, raB ba wv (r.load 1), raW wv n (r.load 1)]) hds how rfl (List.Sublist.refl _) (⟨nb, rfl, rfl⟩) _ (.inl rfl)
theorem me_needs1 {mb fb lp ba n : Nat} {wv Dv Fv : Value} {x : Me} {sp bp pp : Option Nat} {ch pt rp : Int} {d : Dd} {r : Rr} {nb : Nat} {Lv : Value} {y : Dn} (hy : y.ok) (hL : y.l.length ≤ 10000) (hn : r.w.length = n) (hN : n ≤ 1000000) (hf : r.few) (hw : r.mid 1152921504606846976) : FnX Tryz.prog 146 [.pointer (some ⟨mb, 0, none⟩), .pointer (some ⟨ba, 0, none⟩), .pointer (some ⟨fb, 0, none⟩)] ([]) ([meB mb Dv Fv x, frB fb ch pt lp sp (some nb) bp pp rp, ddB lp d, dnB nb Lv y, rowE zK 3 Lv y.l, raB ba wv r, raW wv n r]) (fun v N => ∃ Lv2, v = .tuple #[] ∧ ((¬ (y.step r).1.line = 0 ∧ N = [dnB nb Lv2 (y.step r).1, rowE zK 3 Lv2 (y.step r).1.l, raB ba wv (y.step r).2, raW wv n (y.step r).2, meB mb Dv Fv x, frB fb ch pt lp sp (some nb) bp pp rp, ddB lp d]) ∨ ((y.step r).1.line = 0 ∧ ∃ bb, N = [dbB bb Lv2 (.slice none 0 0) (.slice none 0 0) (.slice none 0 0) (⟨x.th, x.cap, x.wd, x.ver, d.ch1, d.ch2, d.ch3, 1, 0, 0, 0, 0, 0, 0, 0, 0⟩ : Db), rowE zK 3 Lv2 (y.step r).1.l, raB ba wv (y.step r).2, raW wv n (y.step r).2, meB mb Dv Fv x, frB fb ch 5 lp sp (some nb) (some bb) pp rp, ddB lp d]))) := by
 refine FnX.enter Tryz.func146 (by kernel_rfl) rfl (n := 58) rfl rfl (fun w df hds how => ?_)
 refine W ?_
 refine eA rfl (R.eqlNilP Tryz.underlying190 (.t rfl)) ?_
 refine W ?_
 refine cX rfl rfl rfl (.k rfl (.k rfl .nil)) rfl (.skip (.skip (.skip .all))) .nil (dn_Step (x := y) (r := r) hy hL hn hN hf hw) Aprt.nil (fun v B hR => ⟨.all, ?_⟩); obtain ⟨Lv2, rfl, rfl⟩ := hR
 refine W ?_
 refine At.condD (.t rfl) (fun c2 => ?_) (fun c2 => ?_)
 ·
  have hz : (y.step r).1.line = 0 := (by simpa using c2)
  refine W ?_
  refine At.callVR rfl rfl rfl (.k rfl .nil) (.blk (.st M6) .nil) (fun hg => dd_Chunks (b := lp) (x := d)) .all ?_
  refine W ?_
  refine At.drawM ([meB mb Dv Fv x, frB fb ch pt lp sp (some nb) bp pp rp]) ([]) [tt 0, tt 1, tt 2, tt 3, tt 4, tt 6, tt 7, tt 8, tt 9, tt 10, tt 11] [tt 5, tt 12, ff 13, ff 14] [tt 15, tt 16, ff 17, tt 18, tt 19, ff 20] (keepOf sl) (fun _ h => nomatch h) (by kernel_rfl) (by kernel_rfl) ?_
  refine V ?_
  refine At.stage kz ?_
  refine W ?_
  refine At.callVR rfl rfl rfl (.k rfl .nil) (.blk (.st M0) .nil) (fun hg => dn_Versions (b := nb) (Lv := Lv2) (x := (y.step r).1) hz) kz ?_
  refine cX rfl rfl rfl (.k rfl (.k rfl (.k rfl (.k rfl (.k rfl .nil))))) rfl (.skip (.take .nil)) .nil (db_New (th := x.th) (cap := x.cap) (wd := x.wd) (ver := x.ver) (chunk := d.ch1) (mate := d.ch2) (after := d.ch3) (Vv := Lv2) (vs := (y.step r).1.l)) Aprt.nil (fun v B hR => ?_); obtain ⟨bb, rfl, rfl⟩ := hR; refine ⟨kz, ?_⟩
  refine At.stage Cl.none ?_
  refine W ?_
  refine At.st1 rfl rfl sz_3 (.t rfl) .c rfl rfl (.n U6) ⟨Cl.none, ?_⟩
  refine W ?_
  refine At.st1 rfl rfl sz_191 (.t rfl) (.t rfl) rfl rfl (.n U6) ⟨Cl.none, ?_⟩
  refine W ?_
  exact At.finalX0 (N' := [dbB bb Lv2 (.slice none 0 0) (.slice none 0 0) (.slice none 0 0) (⟨x.th, x.cap, x.wd, x.ver, d.ch1, d.ch2, d.ch3, 1, 0, 0, 0, 0, 0, 0, 0, 0⟩ : Db), rowE zK 3 Lv2 (y.step r).1.l, raB ba wv (y.step r).2, raW wv n (y.step r).2, meB mb Dv Fv x, frB fb ch 5 lp sp (some nb) (some bb) pp rp, ddB lp d]) hds how rfl sl (⟨Lv2, rfl, .inr ⟨hz, bb, rfl⟩⟩) _ (.inr rfl)
 ·
  have hz : ¬ (y.step r).1.line = 0 := (by simpa using c2)
  refine W ?_
  exact At.finalX0 (N' := [dnB nb Lv2 (y.step r).1, rowE zK 3 Lv2 (y.step r).1.l, raB ba wv (y.step r).2, raW wv n (y.step r).2, meB mb Dv Fv x, frB fb ch pt lp sp (some nb) bp pp rp, ddB lp d]) hds how rfl (List.Sublist.refl _) (⟨Lv2, rfl, .inl ⟨hz, rfl⟩⟩) _ (.inr rfl)
theorem me_splices {mb fb lp pb ba n : Nat} {dv wv Dv Fv : Value} {l0 l : List Int} {x : Me} {fs : List Nat} {sp np bp : Option Nat} {ch rp : Int} {d : Dd} {p : Dp} {r : Rr} (hD : DrO dv l0 Dv l) (hfs : fs.length ≤ 1000000) (hfp : 0 < fs.length) (hp : p.ok) (hn : r.w.length = n) (hN : n ≤ 1000000) (hf : r.few) (hw : r.mid 1152921504606846976) : FnX Tryz.prog 148 [.pointer (some ⟨mb, 0, none⟩), .pointer (some ⟨ba, 0, none⟩), .pointer (some ⟨fb, 0, none⟩)] ([rdE zK dv l0]) ([meB mb Dv Fv x, rowE sK 187 Fv (fs.map ptS), frB fb ch 6 lp sp np bp (some pb) rp, ddB lp d, dpB pb p, raB ba wv r, raW wv n r]) (fun v N => v = .tuple #[] ∧ ((¬ (p.step r).1.line = 0 ∧ N = [meB mb Dv Fv x, rowE sK 187 Fv (fs.map ptS), frB fb ch 6 lp sp np bp (some pb) rp, ddB lp d, dpB pb (p.step r).1, raB ba wv (p.step r).2, raW wv n (p.step r).2]) ∨ ((p.step r).1.line = 0 ∧ (p.step r).1.stuck = 0 ∧ ∃ Fv2, N = [meB mb Dv Fv2 x, rowE sK 187 Fv2 ((fs.map ptS).take (fs.length - 1)), raB ba wv (p.step r).2, raW wv n (p.step r).2]) ∨ ((p.step r).1.line = 0 ∧ ¬ (p.step r).1.stuck = 0 ∧ ∃ vb fb2 lp2 pb2 dr, N = [rowE sK 187 vb (([] ++ fs.map ptS) ++ [ptS fb2]), frB fb2 (p.step r).1.stuck 1 lp2 none none none none 0, ddB lp2 (⟨x.th, (x.cap : Int), x.wd, x.ver, (p.step r).1.stuck, dr, false, 1, 0, 0, 0, 0, false, 0⟩ : Dd), meB mb Dv vb x, frB fb ch 6 lp sp np bp (some pb2) rp, ddB lp d, dpB pb2 (⟨x.th, (x.cap : Int), x.wd, x.ver, d.ch1, d.ch2, rp, 1, 0, 0, 0, 0, 0⟩ : Dp), raB ba wv (p.step r).2, raW wv n (p.step r).2]))) := by
 refine FnX.enter Tryz.func148 (by kernel_rfl) rfl (n := 50) rfl rfl (fun w df hds how => ?_)
 refine W ?_
 refine cM rfl rfl rfl (.k rfl (.k rfl .nil)) rfl (.n (.skip (.skip (.skip (.skip (.take (.take (.take .nil)))))))) .nil (dp_Step (x := p) (r := r) hp hn hN hf hw) rfl .nil ⟨.all, ?_⟩
 refine Z ?_
 refine At.condN (.t rfl) (fun c1 => ?_) (fun c1 => ?_)
 ·
  have hz : ¬ (p.step r).1.line = 0 := (by simpa using c1)
  refine W ?_
  exact At.finalX0 (N' := [meB mb Dv Fv x, rowE sK 187 Fv (fs.map ptS), frB fb ch 6 lp sp np bp (some pb) rp, ddB lp d, dpB pb (p.step r).1, raB ba wv (p.step r).2, raW wv n (p.step r).2]) hds how rfl (List.Sublist.refl _) (⟨rfl, .inl ⟨hz, rfl⟩⟩) _ (.inl rfl)
 ·
  have hz : (p.step r).1.line = 0 := (by simpa using c1)
  refine Z ?_
  refine At.condN (.t rfl) (fun c2 => ?_) (fun c2 => ?_)
  ·
   have hs : ¬ (p.step r).1.stuck = 0 := (by simpa using c2)
   refine W ?_
   refine At.drawM ([meB mb Dv Fv x, frB fb ch 6 lp sp np bp (some pb) rp]) ([]) [tt 0, tt 1, tt 2, tt 3, tt 5, tt 6, tt 7] [tt 4, tt 8] [ff 9] (keepOf sl) (fun _ h => nomatch h) (by kernel_rfl) (by kernel_rfl) ?_
   refine V ?_
   refine At.stage kz ?_
   refine V ?_
   refine At.stage Cl.none ?_
   refine cX rfl rfl rfl (.k rfl (.k rfl (.k rfl .nil))) rfl (.skip (.skip (.take (.take .nil)))) .nil (fr_splice (fb := fb) (lp := lp) (th := x.th) (cap := x.cap) (wd := x.wd) (ver := x.ver) (rp := rp) (rp2 := rp) (d := d)) Aprt.nil (fun v B hR => ?_); obtain ⟨pb2, rfl, rfl⟩ := hR; refine ⟨Cl.none, ?_⟩
   refine W ?_
   refine cX rfl rfl rfl (.k rfl (.k rfl .nil)) rfl (.skip (.skip (.skip (.take (.take .nil))))) (.cons (rS M0) .nil) (me_begin (mb := mb) (Dv := Dv) (x := x) (fs := fs) (at_ := (p.step r).1.stuck) hD hfs) (Aprt.ofPick (.skip (.skip (.skip (.take (.take .nil)))))) (fun v B hR => ⟨.all, ?_⟩); obtain ⟨vb, fb2, lp2, rfl, rfl⟩ := hR
   refine W ?_
   exact At.finalX0 (N' := [rowE sK 187 vb (([] ++ fs.map ptS) ++ [ptS fb2]), frB fb2 (p.step r).1.stuck 1 lp2 none none none none 0, ddB lp2 (⟨x.th, (x.cap : Int), x.wd, x.ver, (p.step r).1.stuck, _, false, 1, 0, 0, 0, 0, false, 0⟩ : Dd), meB mb Dv vb x, frB fb ch 6 lp sp np bp (some pb2) rp, ddB lp d, dpB pb2 (⟨x.th, (x.cap : Int), x.wd, x.ver, d.ch1, d.ch2, rp, 1, 0, 0, 0, 0, 0⟩ : Dp), raB ba wv (p.step r).2, raW wv n (p.step r).2]) hds how rfl sl (⟨rfl, .inr (.inr ⟨hz, hs, vb, fb2, lp2, pb2, _, rfl⟩)⟩) _ (.inl rfl)
  ·
   have hs : (p.step r).1.stuck = 0 := (by simpa using c2); have hml : (fs.map ptS).length = fs.length := List.length_map _; refine At.rowForm2 (v := Fv) (M2) (by omega) (fun sg scap hsv hsc => ?_); rw [hml] at hsv hsc; subst hsv; refine At.imp (e' := rowE sK 187 (.slice (some ⟨sg, 0, none⟩) (fs.length - 1) scap) ((fs.map ptS).take (fs.length - 1))) (.there .here) rfl (fun w h => rowPop hml (by omega) h) ?_
   refine W ?_
   refine At.drawM ([meB mb Dv (.slice (some ⟨sg, 0, none⟩) fs.length scap) x]) ([]) [tt 0, tt 1, tt 2, tt 3, tt 5, tt 6, tt 7] [tt 4, tt 8, tt 9, tt 10, tt 11] [tt 12, tt 13, ff 14] (keepOf sl) (fun _ h => nomatch h) (by kernel_rfl) (by kernel_rfl) ?_
   refine V ?_
   refine At.stage kz ?_
   refine W ?_
   refine sC rfl kz (R.lenSl Tryz.underlying161 (.t rfl)) ?_
   refine sC rfl kz (R.as (R.subI (.t rfl) .c gO) (fun _ => congrArg (Value.int .i64) (by omega : ((fs.length : Nat) : Int) - 1 = ((fs.length - 1 : Nat) : Int)))) ?_
   refine sC rfl kz (R.sliceHi Tryz.underlying161 sz_187 (.t rfl) (.t rfl) gO) ?_
   refine At.stage Cl.none ?_
   refine W ?_
   refine At.st1 rfl rfl sz_161 (.t rfl) (.t rfl) rfl rfl (.n U0) ⟨Cl.none, ?_⟩
   refine W ?_
   exact At.finalX0 (N' := [meB mb Dv (.slice (some ⟨sg, 0, none⟩) (fs.length - 1) scap) x, rowE sK 187 (.slice (some ⟨sg, 0, none⟩) (fs.length - 1) scap) ((fs.map ptS).take (fs.length - 1)), raB ba wv (p.step r).2, raW wv n (p.step r).2]) hds how rfl sl (⟨rfl, .inr (.inl ⟨hz, hs, _, rfl⟩)⟩) _ (.inr rfl)
end Go.Proofs.YtbolanigdkgbdaaGreat
namespace Go.Proofs.YtbolanigdkgbdaaGreat
open Go Go.RowKit
set_option maxRecDepth 10000
set_option linter.unusedVariables false
set_option linter.unnecessarySimpa false
set_option linter.unusedSectionVars false
set_option maxHeartbeats 1000000
theorem fo_194_3 : fieldOff? Tryz.prog 194 3 = some 3 := by kernel_rfl
theorem sz_189 : (Tryz.prog.info? 189).map (·.size) = some 1 := by kernel_rfl
theorem last_pt {gs : List Nat} {fb : Nat} : gE ((gs ++ [fb]).map ptS) ((((gs ++ [fb]).map ptS).length : Int) - 1) = ptS fb := by
  have e : (((gs ++ [fb]).map ptS).length : Int) - 1 = (gs.length : Nat) := by simp
  rw [e]; simp [gE]
theorem take_pt {gs : List Nat} {fb : Nat} : ((gs ++ [fb]).map ptS).take ((gs ++ [fb]).length - 1) = gs.map ptS := by simp
theorem me_Step1 {mb fb lp ba n : Nat} {dv wv Dv Fv : Value} {l0 l : List Int} {x : Me} {gs : List Nat} {sp np bp pp : Option Nat} {ch rp : Int} {d : Dd} {r : Rr} (hg : gs.length ≤ 900000) (hD : DrO dv l0 Dv l) (hd : d.ok) (hn : r.w.length = n) (hN : n ≤ 1000000) (hf : r.few) (hw : r.mid 1152921504606846976) : FnX Tryz.prog 117 [.pointer (some ⟨mb, 0, none⟩), .pointer (some ⟨ba, 0, none⟩)] ([rdE zK dv l0]) ([meB mb Dv Fv x, rowE sK 187 Fv ((gs ++ [fb]).map ptS), frB fb ch 1 lp sp np bp pp rp, ddB lp d, raB ba wv r, raW wv n r]) (fun v N => ∃ Dv2 l2, DrO dv l0 Dv2 l2 ∧ v = .bool false ∧ ((¬ (d.step r).1.line = 0 ∧ N = [meB mb Dv2 Fv x, rowE sK 187 Fv ((gs ++ [fb]).map ptS), frB fb ch 1 lp sp np bp pp rp, ddB lp (d.step r).1, raB ba wv (d.step r).2, raW wv n (d.step r).2]) ∨ ((d.step r).1.line = 0 ∧ ∃ qb, N = [dqB qb (⟨x.th, (x.cap : Int), x.wd, x.ver, (d.step r).1.ch1, (d.step r).1.ch2, 1, 0, 0⟩ : Dq), meB mb Dv2 Fv x, rowE sK 187 Fv ((gs ++ [fb]).map ptS), frB fb ch 2 lp (some qb) np bp pp rp, ddB lp (d.step r).1, raB ba wv (d.step r).2, raW wv n (d.step r).2]))) := by
 refine FnX.enter Tryz.func117 (by kernel_rfl) rfl (n := 200) rfl rfl (fun w df hds how => ?_)
 have hml : ((gs ++ [fb]).map ptS).length = gs.length + 1 := (by simp)
 refine At.sliceForm (drS hD) (fun sA scap hsv _ _ => ?_)
 subst hsv
 refine Y ?_
 refine At.drawK [tt 0, tt 1, tt 2, tt 3, tt 4, tt 5, tt 6, tt 7, tt 8, tt 9, tt 10, tt 11, tt 12] (by kernel_rfl) (by kernel_rfl) ?_
 refine U ?_
 refine sJ rfl (R.lenRd Tryz.underlying161 (.t rfl) (wK M2)) ?_
 refine sJ rfl (R.subI (.t rfl) .c gO) ?_
 refine sJ rfl (R.indexRd Tryz.underlying161 sz_187 (.t rfl) (wK M2) (.t rfl) gO) ?_
 refine sJ rfl (R.as (R.loadRd Tryz.underlying187 rfl (.t rfl) (wK M2) (fun hg => by exact Ek.get0 rfl (by omega))) (fun _ => congrArg Subtype.val (last_pt (gs := gs) (fb := fb)))) ?_
 refine Y ?_
 refine cM rfl rfl rfl (.k rfl (.k rfl .nil)) rfl (.n (.skip (.skip (.skip (.take (.take (.take .nil))))))) .nil (dd_Step (x := d) (r := r) hd hn hN hf hw) rfl .nil ⟨.all, ?_⟩
 refine U ?_
 refine eA rfl (R.not (.s rfl)) ?_
 refine eA rfl (R.pickAnd (.t rfl) rfl (by (intro hg h; rw [h]; rfl))) ?_
 refine U ?_
 refine eA rfl (R.lenRd Tryz.underlying25 (.s rfl) (drS hD)) ?_
 refine eA rfl (R.gtr (.s rfl) .c) ?_
 refine eA rfl (R.pickAnd (.t rfl) rfl (by (intro hg h; rw [h]; rfl))) ?_
 refine U ?_
 refine At.cond (.t rfl) (fun c3 => ?_) (fun c3 => ?_)
 ·
  have hl1 : 1 ≤ l.length := (by simp [-List.length_eq_zero_iff] at c3; omega); have hD2 := hD.cut 1 hl1
  refine W ?_
  refine eA rfl (R.sliceRd Tryz.underlying25 sz_3 (.t rfl) (drS hD) .c rfl (fun hg => (by (exact bdnZM9)))) ?_
  refine W ?_
  refine At.st1 rfl rfl sz_25 (.t rfl) (.t rfl) rfl rfl (.n U0) ⟨.all, ?_⟩
  refine W ?_
  refine At.condD (.t rfl) (fun c4 => ?_) (fun c4 => ?_)
  ·
   have hz : (d.step r).1.line = 0 := (by simpa using c4)
   refine W ?_
   refine At.callVR rfl rfl rfl (.k rfl .nil) (.blk (.st M4) .nil) (fun hg => dd_Chunks (b := lp) (x := (d.step r).1)) .all ?_
   refine W ?_
   refine cP rfl rfl rfl (.k rfl (.k rfl (.k rfl .nil))) rfl (dq_New (a := x.th) (b := (x.cap : Int)) (c := x.wd) (d := x.ver) (chunk := (d.step r).1.ch1) (mate := (d.step r).1.ch2)) (fun _ h => nomatch h) (fun v N1 H1 hR => ?_); obtain ⟨qb, rfl, rfl, rfl⟩ := hR; refine ⟨rfl, .all, ?_⟩
   refine W ?_
   refine At.st1 rfl rfl sz_3 (.t rfl) .c rfl rfl (.n U3) ⟨.all, ?_⟩
   refine W ?_
   refine At.st1 rfl rfl sz_189 (.t rfl) (.t rfl) rfl rfl (.n U3) ⟨.all, ?_⟩
   refine Y ?_
   exact At.finalX (N' := [dqB qb (⟨x.th, (x.cap : Int), x.wd, x.ver, (d.step r).1.ch1, (d.step r).1.ch2, 1, 0, 0⟩ : Dq), meB mb _ Fv x, rowE sK 187 Fv ((gs ++ [fb]).map ptS), frB fb ch 2 lp (some qb) np bp pp rp, ddB lp (d.step r).1, raB ba wv (d.step r).2, raW wv n (d.step r).2]) hds how rfl (.t rfl) (List.Sublist.refl _) (⟨_, _, hD2, rfl, .inr ⟨hz, qb, rfl⟩⟩)
  ·
   have hz : ¬ (d.step r).1.line = 0 := (by simpa using c4)
   refine Y ?_
   exact At.finalX (N' := [meB mb _ Fv x, rowE sK 187 Fv ((gs ++ [fb]).map ptS), frB fb ch 1 lp sp np bp pp rp, ddB lp (d.step r).1, raB ba wv (d.step r).2, raW wv n (d.step r).2]) hds how rfl (.t rfl) (List.Sublist.refl _) (⟨_, _, hD2, rfl, .inl ⟨hz, rfl⟩⟩)
 ·
  have hD2 := hD
  refine W ?_
  refine At.condD (.t rfl) (fun c5 => ?_) (fun c5 => ?_)
  ·
   have hz : (d.step r).1.line = 0 := (by simpa using c5)
   refine W ?_
   refine At.callVR rfl rfl rfl (.k rfl .nil) (.blk (.st M4) .nil) (fun hg => dd_Chunks (b := lp) (x := (d.step r).1)) .all ?_
   refine W ?_
   refine cP rfl rfl rfl (.k rfl (.k rfl (.k rfl .nil))) rfl (dq_New (a := x.th) (b := (x.cap : Int)) (c := x.wd) (d := x.ver) (chunk := (d.step r).1.ch1) (mate := (d.step r).1.ch2)) (fun _ h => nomatch h) (fun v N1 H1 hR => ?_); obtain ⟨qb, rfl, rfl, rfl⟩ := hR; refine ⟨rfl, .all, ?_⟩
   refine W ?_
   refine At.st1 rfl rfl sz_3 (.t rfl) .c rfl rfl (.n U3) ⟨.all, ?_⟩
   refine W ?_
   refine At.st1 rfl rfl sz_189 (.t rfl) (.t rfl) rfl rfl (.n U3) ⟨.all, ?_⟩
   refine Y ?_
   exact At.finalX (N' := [dqB qb (⟨x.th, (x.cap : Int), x.wd, x.ver, (d.step r).1.ch1, (d.step r).1.ch2, 1, 0, 0⟩ : Dq), meB mb _ Fv x, rowE sK 187 Fv ((gs ++ [fb]).map ptS), frB fb ch 2 lp (some qb) np bp pp rp, ddB lp (d.step r).1, raB ba wv (d.step r).2, raW wv n (d.step r).2]) hds how rfl (.t rfl) (List.Sublist.refl _) (⟨_, _, hD2, rfl, .inr ⟨hz, qb, rfl⟩⟩)
  ·
   have hz : ¬ (d.step r).1.line = 0 := (by simpa using c5)
   refine Y ?_
   exact At.finalX (N' := [meB mb _ Fv x, rowE sK 187 Fv ((gs ++ [fb]).map ptS), frB fb ch 1 lp sp np bp pp rp, ddB lp (d.step r).1, raB ba wv (d.step r).2, raW wv n (d.step r).2]) hds how rfl (.t rfl) (List.Sublist.refl _) (⟨_, _, hD2, rfl, .inl ⟨hz, rfl⟩⟩)
theorem me_Step2 {mb fb lp ba n : Nat} {dv wv Dv Fv : Value} {l0 l : List Int} {x : Me} {gs : List Nat} {sp np bp pp : Option Nat} {ch rp : Int} {d : Dd} {r : Rr} (hg : gs.length ≤ 900000) {qb : Nat} {q : Dq} (hq : q.ok) (hn : r.w.length = n) (hN : n ≤ 1000000) (hf : r.few) (hw : r.mid 1152921504606846976) : FnX Tryz.prog 117 [.pointer (some ⟨mb, 0, none⟩), .pointer (some ⟨ba, 0, none⟩)] ([rdE zK dv l0]) ([meB mb Dv Fv x, rowE sK 187 Fv ((gs ++ [fb]).map ptS), frB fb ch 2 lp (some qb) np bp pp rp, dqB qb q, raB ba wv r, raW wv n r]) (fun v N => v = .bool false ∧ ((¬ (q.step r).1.line = 0 ∧ N = [meB mb Dv Fv x, rowE sK 187 Fv ((gs ++ [fb]).map ptS), frB fb ch 2 lp (some qb) np bp pp rp, dqB qb (q.step r).1, raB ba wv (q.step r).2, raW wv n (q.step r).2]) ∨ ((q.step r).1.line = 0 ∧ N = [meB mb Dv Fv x, rowE sK 187 Fv ((gs ++ [fb]).map ptS), frB fb ch 3 lp (some qb) np bp pp rp, dqB qb (q.step r).1, raB ba wv (q.step r).2, raW wv n (q.step r).2]))) := by
 refine FnX.enter Tryz.func117 (by kernel_rfl) rfl (n := 200) rfl rfl (fun w df hds how => ?_)
 have hml : ((gs ++ [fb]).map ptS).length = gs.length + 1 := (by simp)
 refine Y ?_
 refine At.drawK [tt 0, tt 1, tt 2, tt 3, tt 4, tt 5, tt 6, tt 7, tt 8, tt 9, tt 10, tt 11, tt 12] (by kernel_rfl) (by kernel_rfl) ?_
 refine U ?_
 refine sJ rfl (R.lenRd Tryz.underlying161 (.t rfl) (wK M2)) ?_
 refine sJ rfl (R.subI (.t rfl) .c gO) ?_
 refine sJ rfl (R.indexRd Tryz.underlying161 sz_187 (.t rfl) (wK M2) (.t rfl) gO) ?_
 refine sJ rfl (R.as (R.loadRd Tryz.underlying187 rfl (.t rfl) (wK M2) (fun hg => by exact Ek.get0 rfl (by omega))) (fun _ => congrArg Subtype.val (last_pt (gs := gs) (fb := fb)))) ?_
 refine Y ?_
 refine cM rfl rfl rfl (.k rfl (.k rfl .nil)) rfl (.n (.skip (.skip (.skip (.take (.take (.take .nil))))))) .nil (dq_Step (x := q) (r := r) hq hn hN hf hw) rfl .nil ⟨.all, ?_⟩
 refine W ?_
 refine At.condD (.t rfl) (fun c4 => ?_) (fun c4 => ?_)
 ·
  have hz : (q.step r).1.line = 0 := (by simpa using c4)
  refine W ?_
  refine At.st1 rfl rfl sz_3 (.t rfl) .c rfl rfl (.n U2) ⟨.all, ?_⟩
  refine Y ?_
  exact At.finalX (N' := [meB mb Dv Fv x, rowE sK 187 Fv ((gs ++ [fb]).map ptS), frB fb ch 3 lp (some qb) np bp pp rp, dqB qb (q.step r).1, raB ba wv (q.step r).2, raW wv n (q.step r).2]) hds how rfl (.t rfl) (List.Sublist.refl _) (⟨rfl, .inr ⟨hz, rfl⟩⟩)
 ·
  have hz : ¬ (q.step r).1.line = 0 := (by simpa using c4)
  refine Y ?_
  exact At.finalX (N' := [meB mb Dv Fv x, rowE sK 187 Fv ((gs ++ [fb]).map ptS), frB fb ch 2 lp (some qb) np bp pp rp, dqB qb (q.step r).1, raB ba wv (q.step r).2, raW wv n (q.step r).2]) hds how rfl (.t rfl) (List.Sublist.refl _) (⟨rfl, .inl ⟨hz, rfl⟩⟩)
theorem me_Step3 {mb fb lp ba n : Nat} {dv wv Dv Fv : Value} {l0 l : List Int} {x : Me} {gs : List Nat} {sp np bp pp : Option Nat} {ch rp : Int} {d : Dd} {r : Rr} (hg : gs.length ≤ 900000) (hc : -1152921504606846976 ≤ d.ch1 ∧ d.ch1 ≤ 1152921504606846976) (hn : r.w.length = n) (hN : n ≤ 1000000) (hf : r.few) (hw : r.mid 1152921504606846976) : FnX Tryz.prog 117 [.pointer (some ⟨mb, 0, none⟩), .pointer (some ⟨ba, 0, none⟩)] ([rdE zK dv l0]) ([meB mb Dv Fv x, rowE sK 187 Fv ((gs ++ [fb]).map ptS), frB fb ch 3 lp sp np bp pp rp, ddB lp d, raB ba wv r, raW wv n r]) (fun v N => v = .bool false ∧ (((r.peek (d.ch1 + 5)) = 0 ∧ N = [meB mb Dv Fv x, rowE sK 187 Fv ((gs ++ [fb]).map ptS), frB fb ch 4 lp sp np bp pp rp, ddB lp d, raB ba wv (r.load (d.ch1 + 5)), raW wv n (r.load (d.ch1 + 5))]) ∨ (¬ (r.peek (d.ch1 + 5)) = 0 ∧ ∃ pb2, N = [frB fb ch 6 lp sp np bp (some pb2) (r.peek (d.ch1 + 5)), ddB lp d, dpB pb2 (⟨x.th, (x.cap : Int), x.wd, x.ver, d.ch1, d.ch2, (r.peek (d.ch1 + 5)), 1, 0, 0, 0, 0, 0⟩ : Dp), meB mb Dv Fv x, rowE sK 187 Fv ((gs ++ [fb]).map ptS), raB ba wv (r.load (d.ch1 + 5)), raW wv n (r.load (d.ch1 + 5))]))) := by
 refine FnX.enter Tryz.func117 (by kernel_rfl) rfl (n := 200) rfl rfl (fun w df hds how => ?_)
 have hml : ((gs ++ [fb]).map ptS).length = gs.length + 1 := (by simp)
 refine Y ?_
 refine At.drawK [tt 0, tt 1, tt 2, tt 3, tt 4, tt 5, tt 6, tt 7, tt 8, tt 9, tt 10, tt 11, tt 12] (by kernel_rfl) (by kernel_rfl) ?_
 refine U ?_
 refine sJ rfl (R.lenRd Tryz.underlying161 (.t rfl) (wK M2)) ?_
 refine sJ rfl (R.subI (.t rfl) .c gO) ?_
 refine sJ rfl (R.indexRd Tryz.underlying161 sz_187 (.t rfl) (wK M2) (.t rfl) gO) ?_
 refine sJ rfl (R.as (R.loadRd Tryz.underlying187 rfl (.t rfl) (wK M2) (fun hg => by exact Ek.get0 rfl (by omega))) (fun _ => congrArg Subtype.val (last_pt (gs := gs) (fb := fb)))) ?_
 refine Y ?_
 refine At.callVR rfl rfl rfl (.k rfl .nil) (.blk (.st M4) .nil) (fun hg => dd_Chunks (b := lp) (x := d)) .all ?_
 refine W ?_
 refine At.st1 rfl rfl sz_3 (.t rfl) .c rfl rfl (.n U2) ⟨.all, ?_⟩
 refine W ?_
 refine cM rfl rfl rfl (.k rfl (.k rfl .nil)) rfl (.n (.skip (.skip (.skip (.skip (.take (.take .nil))))))) .nil (r_Load (r := r) (i := d.ch1 + 5) hn hN hf) keysRa .nil ⟨.all, ?_⟩
 refine Z ?_
 refine At.condN (.t rfl) (fun c5 => ?_) (fun c5 => ?_)
 ·
  have hz : ¬ (r.peek (d.ch1 + 5)) = 0 := (by simpa using c5)
  refine W ?_
  refine cX rfl rfl rfl (.k rfl (.k rfl (.k rfl .nil))) rfl (.skip (.skip (.take (.take .nil)))) .nil (fr_splice (fb := fb) (lp := lp) (th := x.th) (cap := x.cap) (wd := x.wd) (ver := x.ver) (rp := rp) (rp2 := (r.peek (d.ch1 + 5))) (d := d)) Aprt.nil (fun v B hR => ?_); obtain ⟨pb2, rfl, rfl⟩ := hR; refine ⟨.all, ?_⟩
  refine Y ?_
  exact At.finalX (N' := [frB fb ch 6 lp sp np bp (some pb2) (r.peek (d.ch1 + 5)), ddB lp d, dpB pb2 (⟨x.th, (x.cap : Int), x.wd, x.ver, d.ch1, d.ch2, (r.peek (d.ch1 + 5)), 1, 0, 0, 0, 0, 0⟩ : Dp), meB mb Dv Fv x, rowE sK 187 Fv ((gs ++ [fb]).map ptS), raB ba wv (r.load (d.ch1 + 5)), raW wv n (r.load (d.ch1 + 5))]) hds how rfl (.t rfl) (List.Sublist.refl _) (⟨rfl, .inr ⟨hz, pb2, rfl⟩⟩)
 ·
  have hz : (r.peek (d.ch1 + 5)) = 0 := (by simpa using c5)
  refine Y ?_
  exact At.finalX (N' := [meB mb Dv Fv x, rowE sK 187 Fv ((gs ++ [fb]).map ptS), frB fb ch 4 lp sp np bp pp rp, ddB lp d, raB ba wv (r.load (d.ch1 + 5)), raW wv n (r.load (d.ch1 + 5))]) hds how rfl (.t rfl) (List.Sublist.refl _) (⟨rfl, .inl ⟨hz, rfl⟩⟩)
theorem me_Step4a {mb fb lp ba n : Nat} {dv wv Dv Fv : Value} {l0 l : List Int} {x : Me} {gs : List Nat} {sp np bp pp : Option Nat} {ch rp : Int} {d : Dd} {r : Rr} (hg : gs.length ≤ 900000) (hn : r.w.length = n) (hN : n ≤ 1000000) (hf : r.few) (hw : r.mid 1152921504606846976) : FnX Tryz.prog 117 [.pointer (some ⟨mb, 0, none⟩), .pointer (some ⟨ba, 0, none⟩)] ([rdE zK dv l0]) ([meB mb Dv Fv x, rowE sK 187 Fv ((gs ++ [fb]).map ptS), frB fb ch 4 lp sp none bp pp rp, raB ba wv r, raW wv n r]) (fun v N => ∃ nb, v = .bool false ∧ N = [dnB nb (.slice none 0 0) (⟨x.th, (x.cap : Int), x.wd, x.ver, 0, 1, 0, 0, []⟩ : Dn), rowE zK 3 (.slice none 0 0) [], meB mb Dv Fv x, frB fb ch 4 lp sp (some nb) bp pp rp, raB ba wv (r.load 1), raW wv n (r.load 1), rowE sK 187 Fv ((gs ++ [fb]).map ptS)]) := by
 refine FnX.enter Tryz.func117 (by kernel_rfl) rfl (n := 200) rfl rfl (fun w df hds how => ?_)
 have hml : ((gs ++ [fb]).map ptS).length = gs.length + 1 := (by simp)
 refine Y ?_
 refine At.drawK [tt 0, tt 1, tt 2, tt 3, tt 4, tt 5, tt 6, tt 7, tt 8, tt 9, tt 10, tt 11, tt 12] (by kernel_rfl) (by kernel_rfl) ?_
 refine U ?_
 refine sJ rfl (R.lenRd Tryz.underlying161 (.t rfl) (wK M2)) ?_
 refine sJ rfl (R.subI (.t rfl) .c gO) ?_
 refine sJ rfl (R.indexRd Tryz.underlying161 sz_187 (.t rfl) (wK M2) (.t rfl) gO) ?_
 refine sJ rfl (R.as (R.loadRd Tryz.underlying187 rfl (.t rfl) (wK M2) (fun hg => by exact Ek.get0 rfl (by omega))) (fun _ => congrArg Subtype.val (last_pt (gs := gs) (fb := fb)))) ?_
 refine Y ?_
 refine cX rfl rfl rfl (.k rfl (.k rfl (.k rfl .nil))) rfl (.take (.skip (.take (.take (.take .nil))))) .nil (me_needs0 (mb := mb) (Dv := Dv) (Fv := Fv) (x := x) (fb := fb) (sp := sp) (bp := bp) (pp := pp) (ch := ch) (pt := 4) (rp := rp) (lp := lp) (d := d) hn hN hf hw) Aprt.nil (fun v B hR => ⟨.all, ?_⟩); obtain ⟨nb, rfl, rfl⟩ := hR
 refine Y ?_
 exact At.finalX (N' := [dnB nb (.slice none 0 0) (⟨x.th, (x.cap : Int), x.wd, x.ver, 0, 1, 0, 0, []⟩ : Dn), rowE zK 3 (.slice none 0 0) [], meB mb Dv Fv x, frB fb ch 4 lp sp (some nb) bp pp rp, raB ba wv (r.load 1), raW wv n (r.load 1), rowE sK 187 Fv ((gs ++ [fb]).map ptS)]) hds how rfl (.t rfl) (List.Sublist.refl _) (⟨nb, rfl, rfl⟩)
theorem me_Step4b {mb fb lp ba n : Nat} {dv wv Dv Fv : Value} {l0 l : List Int} {x : Me} {gs : List Nat} {sp np bp pp : Option Nat} {ch rp : Int} {d : Dd} {r : Rr} (hg : gs.length ≤ 900000) {nb : Nat} {Lv : Value} {y : Dn} (hy : y.ok) (hL : y.l.length ≤ 10000) (hz : ¬ (y.step r).1.line = 0) (hn : r.w.length = n) (hN : n ≤ 1000000) (hf : r.few) (hw : r.mid 1152921504606846976) : FnX Tryz.prog 117 [.pointer (some ⟨mb, 0, none⟩), .pointer (some ⟨ba, 0, none⟩)] ([rdE zK dv l0]) ([meB mb Dv Fv x, rowE sK 187 Fv ((gs ++ [fb]).map ptS), frB fb ch 4 lp sp (some nb) bp pp rp, ddB lp d, dnB nb Lv y, rowE zK 3 Lv y.l, raB ba wv r, raW wv n r]) (fun v N => ∃ Lv2, v = .bool false ∧ N = [dnB nb Lv2 (y.step r).1, rowE zK 3 Lv2 (y.step r).1.l, raB ba wv (y.step r).2, raW wv n (y.step r).2, meB mb Dv Fv x, frB fb ch 4 lp sp (some nb) bp pp rp, ddB lp d, rowE sK 187 Fv ((gs ++ [fb]).map ptS)]) := by
 refine FnX.enter Tryz.func117 (by kernel_rfl) rfl (n := 200) rfl rfl (fun w df hds how => ?_)
 have hml : ((gs ++ [fb]).map ptS).length = gs.length + 1 := (by simp)
 refine Y ?_
 refine At.drawK [tt 0, tt 1, tt 2, tt 3, tt 4, tt 5, tt 6, tt 7, tt 8, tt 9, tt 10, tt 11, tt 12] (by kernel_rfl) (by kernel_rfl) ?_
 refine U ?_
 refine sJ rfl (R.lenRd Tryz.underlying161 (.t rfl) (wK M2)) ?_
 refine sJ rfl (R.subI (.t rfl) .c gO) ?_
 refine sJ rfl (R.indexRd Tryz.underlying161 sz_187 (.t rfl) (wK M2) (.t rfl) gO) ?_
 refine sJ rfl (R.as (R.loadRd Tryz.underlying187 rfl (.t rfl) (wK M2) (fun hg => by exact Ek.get0 rfl (by omega))) (fun _ => congrArg Subtype.val (last_pt (gs := gs) (fb := fb)))) ?_
 refine Y ?_
 refine cX rfl rfl rfl (.k rfl (.k rfl (.k rfl .nil))) rfl (.take (.skip .all)) .nil (me_needs1 (mb := mb) (Dv := Dv) (Fv := Fv) (x := x) (fb := fb) (sp := sp) (bp := bp) (pp := pp) (ch := ch) (pt := 4) (rp := rp) (lp := lp) (d := d) (y := y) (Lv := Lv) hy hL hn hN hf hw) Aprt.nil (fun v B hR => ⟨.all, ?_⟩); obtain ⟨Lv2, rfl, hR⟩ := hR; obtain ⟨_, rfl⟩ := hR.resolve_right (fun h => hz h.1)
 refine Y ?_
 exact At.finalX (N' := [dnB nb Lv2 (y.step r).1, rowE zK 3 Lv2 (y.step r).1.l, raB ba wv (y.step r).2, raW wv n (y.step r).2, meB mb Dv Fv x, frB fb ch 4 lp sp (some nb) bp pp rp, ddB lp d, rowE sK 187 Fv ((gs ++ [fb]).map ptS)]) hds how rfl (.t rfl) (List.Sublist.refl _) (⟨Lv2, rfl, rfl⟩)
theorem me_Step4c {mb fb lp ba n : Nat} {dv wv Dv Fv : Value} {l0 l : List Int} {x : Me} {gs : List Nat} {sp np bp pp : Option Nat} {ch rp : Int} {d : Dd} {r : Rr} (hg : gs.length ≤ 900000) {nb : Nat} {Lv : Value} {y : Dn} (hy : y.ok) (hL : y.l.length ≤ 10000) (hz : (y.step r).1.line = 0) (hn : r.w.length = n) (hN : n ≤ 1000000) (hf : r.few) (hw : r.mid 1152921504606846976) : FnX Tryz.prog 117 [.pointer (some ⟨mb, 0, none⟩), .pointer (some ⟨ba, 0, none⟩)] ([rdE zK dv l0]) ([meB mb Dv Fv x, rowE sK 187 Fv ((gs ++ [fb]).map ptS), frB fb ch 4 lp sp (some nb) bp pp rp, ddB lp d, dnB nb Lv y, rowE zK 3 Lv y.l, raB ba wv r, raW wv n r]) (fun v N => ∃ Lv2 bb, v = .bool false ∧ N = [dbB bb Lv2 (.slice none 0 0) (.slice none 0 0) (.slice none 0 0) (⟨x.th, x.cap, x.wd, x.ver, d.ch1, d.ch2, d.ch3, 1, 0, 0, 0, 0, 0, 0, 0, 0⟩ : Db), rowE zK 3 Lv2 (y.step r).1.l, raB ba wv (y.step r).2, raW wv n (y.step r).2, meB mb Dv Fv x, frB fb ch 5 lp sp (some nb) (some bb) pp rp, ddB lp d, rowE sK 187 Fv ((gs ++ [fb]).map ptS)]) := by
 refine FnX.enter Tryz.func117 (by kernel_rfl) rfl (n := 200) rfl rfl (fun w df hds how => ?_)
 have hml : ((gs ++ [fb]).map ptS).length = gs.length + 1 := (by simp)
 refine Y ?_
 refine At.drawK [tt 0, tt 1, tt 2, tt 3, tt 4, tt 5, tt 6, tt 7, tt 8, tt 9, tt 10, tt 11, tt 12] (by kernel_rfl) (by kernel_rfl) ?_
 refine U ?_
 refine sJ rfl (R.lenRd Tryz.underlying161 (.t rfl) (wK M2)) ?_
 refine sJ rfl (R.subI (.t rfl) .c gO) ?_
 refine sJ rfl (R.indexRd Tryz.underlying161 sz_187 (.t rfl) (wK M2) (.t rfl) gO) ?_
 refine sJ rfl (R.as (R.loadRd Tryz.underlying187 rfl (.t rfl) (wK M2) (fun hg => by exact Ek.get0 rfl (by omega))) (fun _ => congrArg Subtype.val (last_pt (gs := gs) (fb := fb)))) ?_
 refine Y ?_
 refine cX rfl rfl rfl (.k rfl (.k rfl (.k rfl .nil))) rfl (.take (.skip .all)) .nil (me_needs1 (mb := mb) (Dv := Dv) (Fv := Fv) (x := x) (fb := fb) (sp := sp) (bp := bp) (pp := pp) (ch := ch) (pt := 4) (rp := rp) (lp := lp) (d := d) (y := y) (Lv := Lv) hy hL hn hN hf hw) Aprt.nil (fun v B hR => ⟨.all, ?_⟩); obtain ⟨Lv2, rfl, hR⟩ := hR; obtain ⟨_, bb, rfl⟩ := hR.resolve_left (fun h => h.1 hz)
 refine Y ?_
 exact At.finalX (N' := [dbB bb Lv2 (.slice none 0 0) (.slice none 0 0) (.slice none 0 0) (⟨x.th, x.cap, x.wd, x.ver, d.ch1, d.ch2, d.ch3, 1, 0, 0, 0, 0, 0, 0, 0, 0⟩ : Db), rowE zK 3 Lv2 (y.step r).1.l, raB ba wv (y.step r).2, raW wv n (y.step r).2, meB mb Dv Fv x, frB fb ch 5 lp sp (some nb) (some bb) pp rp, ddB lp d, rowE sK 187 Fv ((gs ++ [fb]).map ptS)]) hds how rfl (.t rfl) (List.Sublist.refl _) (⟨Lv2, bb, rfl, rfl⟩)
theorem me_Step6a {mb fb lp ba n : Nat} {dv wv Dv Fv : Value} {l0 l : List Int} {x : Me} {gs : List Nat} {sp np bp pp : Option Nat} {ch rp : Int} {d : Dd} {r : Rr} (hg : gs.length ≤ 900000) {pb : Nat} {l : List Int} {p : Dp} (hD : DrO dv l0 Dv l) (hp : p.ok) (hz : ¬ (p.step r).1.line = 0) (hn : r.w.length = n) (hN : n ≤ 1000000) (hf : r.few) (hw : r.mid 1152921504606846976) : FnX Tryz.prog 117 [.pointer (some ⟨mb, 0, none⟩), .pointer (some ⟨ba, 0, none⟩)] ([rdE zK dv l0]) ([meB mb Dv Fv x, rowE sK 187 Fv ((gs ++ [fb]).map ptS), frB fb ch 6 lp sp np bp (some pb) rp, ddB lp d, dpB pb p, raB ba wv r, raW wv n r]) (fun v N => v = .bool false ∧ N = [meB mb Dv Fv x, rowE sK 187 Fv ((gs ++ [fb]).map ptS), frB fb ch 6 lp sp np bp (some pb) rp, ddB lp d, dpB pb (p.step r).1, raB ba wv (p.step r).2, raW wv n (p.step r).2]) := by
 refine FnX.enter Tryz.func117 (by kernel_rfl) rfl (n := 200) rfl rfl (fun w df hds how => ?_)
 have hml : ((gs ++ [fb]).map ptS).length = gs.length + 1 := (by simp)
 refine Y ?_
 refine At.drawK [tt 0, tt 1, tt 2, tt 3, tt 4, tt 5, tt 6, tt 7, tt 8, tt 9, tt 10, tt 11, tt 12] (by kernel_rfl) (by kernel_rfl) ?_
 refine U ?_
 refine sJ rfl (R.lenRd Tryz.underlying161 (.t rfl) (wK M2)) ?_
 refine sJ rfl (R.subI (.t rfl) .c gO) ?_
 refine sJ rfl (R.indexRd Tryz.underlying161 sz_187 (.t rfl) (wK M2) (.t rfl) gO) ?_
 refine sJ rfl (R.as (R.loadRd Tryz.underlying187 rfl (.t rfl) (wK M2) (fun hg => by exact Ek.get0 rfl (by omega))) (fun _ => congrArg Subtype.val (last_pt (gs := gs) (fb := fb)))) ?_
 refine Y ?_
 refine cX rfl rfl rfl (.k rfl (.k rfl (.k rfl .nil))) rfl .all (.cons (rS M0) .nil) (me_splices (mb := mb) (fb := fb) (fs := gs ++ [fb]) (x := x) (p := p) hD (by simp; omega) (by simp) hp hn hN hf hw) (Aprt.ofPick .all) (fun v B hR => ⟨.all, ?_⟩); obtain ⟨rfl, hR⟩ := hR; obtain rfl : B = _ := (hR.resolve_right (fun h => h.elim (fun h => hz h.1) (fun h => hz h.1))).2
 refine Y ?_
 exact At.finalX (N' := [meB mb Dv Fv x, rowE sK 187 Fv ((gs ++ [fb]).map ptS), frB fb ch 6 lp sp np bp (some pb) rp, ddB lp d, dpB pb (p.step r).1, raB ba wv (p.step r).2, raW wv n (p.step r).2]) hds how rfl (.t rfl) (List.Sublist.refl _) (⟨rfl, rfl⟩)
theorem me_Step6b {mb fb lp ba n : Nat} {dv wv Dv Fv : Value} {l0 l : List Int} {x : Me} {gs : List Nat} {sp np bp pp : Option Nat} {ch rp : Int} {d : Dd} {r : Rr} (hg : gs.length ≤ 900000) {pb : Nat} {l : List Int} {p : Dp} (hD : DrO dv l0 Dv l) (hp : p.ok) (hz : (p.step r).1.line = 0) (hs : (p.step r).1.stuck = 0) (hn : r.w.length = n) (hN : n ≤ 1000000) (hf : r.few) (hw : r.mid 1152921504606846976) : FnX Tryz.prog 117 [.pointer (some ⟨mb, 0, none⟩), .pointer (some ⟨ba, 0, none⟩)] ([rdE zK dv l0]) ([meB mb Dv Fv x, rowE sK 187 Fv ((gs ++ [fb]).map ptS), frB fb ch 6 lp sp np bp (some pb) rp, ddB lp d, dpB pb p, raB ba wv r, raW wv n r]) (fun v N => ∃ Fv2, v = .bool (decide (gs.length = 0)) ∧ N = [meB mb Dv Fv2 x, rowE sK 187 Fv2 (gs.map ptS), raB ba wv (p.step r).2, raW wv n (p.step r).2]) := by
 refine FnX.enter Tryz.func117 (by kernel_rfl) rfl (n := 200) rfl rfl (fun w df hds how => ?_)
 have hml : ((gs ++ [fb]).map ptS).length = gs.length + 1 := (by simp)
 refine Y ?_
 refine At.drawK [tt 0, tt 1, tt 2, tt 3, tt 4, tt 5, tt 6, tt 7, tt 8, tt 9, tt 10, tt 11, tt 12] (by kernel_rfl) (by kernel_rfl) ?_
 refine U ?_
 refine sJ rfl (R.lenRd Tryz.underlying161 (.t rfl) (wK M2)) ?_
 refine sJ rfl (R.subI (.t rfl) .c gO) ?_
 refine sJ rfl (R.indexRd Tryz.underlying161 sz_187 (.t rfl) (wK M2) (.t rfl) gO) ?_
 refine sJ rfl (R.as (R.loadRd Tryz.underlying187 rfl (.t rfl) (wK M2) (fun hg => by exact Ek.get0 rfl (by omega))) (fun _ => congrArg Subtype.val (last_pt (gs := gs) (fb := fb)))) ?_
 refine Y ?_
 refine cX rfl rfl rfl (.k rfl (.k rfl (.k rfl .nil))) rfl .all (.cons (rS M0) .nil) (me_splices (mb := mb) (fb := fb) (fs := gs ++ [fb]) (x := x) (p := p) hD (by simp; omega) (by simp) hp hn hN hf hw) (Aprt.ofPick .all) (fun v B hR => ⟨.all, ?_⟩); obtain ⟨rfl, hR⟩ := hR; obtain ⟨Fv2, rfl⟩ := (((hR.resolve_left (fun h => h.1 hz)).resolve_right (fun h => h.2.1 hs)).2).2; have hgt := take_pt (gs := gs) (fb := fb); rw [hgt]
 refine Z ?_
 exact At.finalX (N' := [meB mb Dv Fv2 x, rowE sK 187 Fv2 (gs.map ptS), raB ba wv (p.step r).2, raW wv n (p.step r).2]) hds how rfl (.t rfl) (List.Sublist.refl _) (⟨Fv2, congrArg Value.bool (by rw [decide_eq_decide, List.length_map]; omega), rfl⟩)
theorem me_Step6c {mb fb lp ba n : Nat} {dv wv Dv Fv : Value} {l0 l : List Int} {x : Me} {gs : List Nat} {sp np bp pp : Option Nat} {ch rp : Int} {d : Dd} {r : Rr} (hg : gs.length ≤ 900000) {pb : Nat} {l : List Int} {p : Dp} (hD : DrO dv l0 Dv l) (hp : p.ok) (hz : (p.step r).1.line = 0) (hs : ¬ (p.step r).1.stuck = 0) (hn : r.w.length = n) (hN : n ≤ 1000000) (hf : r.few) (hw : r.mid 1152921504606846976) : FnX Tryz.prog 117 [.pointer (some ⟨mb, 0, none⟩), .pointer (some ⟨ba, 0, none⟩)] ([rdE zK dv l0]) ([meB mb Dv Fv x, rowE sK 187 Fv ((gs ++ [fb]).map ptS), frB fb ch 6 lp sp np bp (some pb) rp, ddB lp d, dpB pb p, raB ba wv r, raW wv n r]) (fun v N => ∃ vb fb2 lp2 pb2 dr, v = .bool false ∧ N = [rowE sK 187 vb ((gs ++ [fb] ++ [fb2]).map ptS), frB fb2 (p.step r).1.stuck 1 lp2 none none none none 0, ddB lp2 (⟨x.th, (x.cap : Int), x.wd, x.ver, (p.step r).1.stuck, dr, false, 1, 0, 0, 0, 0, false, 0⟩ : Dd), meB mb Dv vb x, frB fb ch 6 lp sp np bp (some pb2) rp, ddB lp d, dpB pb2 (⟨x.th, (x.cap : Int), x.wd, x.ver, d.ch1, d.ch2, rp, 1, 0, 0, 0, 0, 0⟩ : Dp), raB ba wv (p.step r).2, raW wv n (p.step r).2]) := by
 refine FnX.enter Tryz.func117 (by kernel_rfl) rfl (n := 200) rfl rfl (fun w df hds how => ?_)
 have hml : ((gs ++ [fb]).map ptS).length = gs.length + 1 := (by simp)
 refine Y ?_
 refine At.drawK [tt 0, tt 1, tt 2, tt 3, tt 4, tt 5, tt 6, tt 7, tt 8, tt 9, tt 10, tt 11, tt 12] (by kernel_rfl) (by kernel_rfl) ?_
 refine U ?_
 refine sJ rfl (R.lenRd Tryz.underlying161 (.t rfl) (wK M2)) ?_
 refine sJ rfl (R.subI (.t rfl) .c gO) ?_
 refine sJ rfl (R.indexRd Tryz.underlying161 sz_187 (.t rfl) (wK M2) (.t rfl) gO) ?_
 refine sJ rfl (R.as (R.loadRd Tryz.underlying187 rfl (.t rfl) (wK M2) (fun hg => by exact Ek.get0 rfl (by omega))) (fun _ => congrArg Subtype.val (last_pt (gs := gs) (fb := fb)))) ?_
 refine Y ?_
 refine cX rfl rfl rfl (.k rfl (.k rfl (.k rfl .nil))) rfl .all (.cons (rS M0) .nil) (me_splices (mb := mb) (fb := fb) (fs := gs ++ [fb]) (x := x) (p := p) hD (by simp; omega) (by simp) hp hn hN hf hw) (Aprt.ofPick .all) (fun v B hR => ⟨.all, ?_⟩); obtain ⟨rfl, hR⟩ := hR; obtain ⟨vb, fb2, lp2, pb2, dr, rfl⟩ := (((hR.resolve_left (fun h => h.1 hz)).resolve_left (fun h => hs h.2.1)).2).2; have hap : ([] ++ (gs ++ [fb]).map ptS) ++ [ptS fb2] = (gs ++ [fb] ++ [fb2]).map ptS := (by simp); rw [hap]; have hml2 : ((gs ++ [fb] ++ [fb2]).map ptS).length = gs.length + 2 := (by simp)
 refine Y ?_
 exact At.finalX (N' := [rowE sK 187 vb ((gs ++ [fb] ++ [fb2]).map ptS), frB fb2 (p.step r).1.stuck 1 lp2 none none none none 0, ddB lp2 (⟨x.th, (x.cap : Int), x.wd, x.ver, (p.step r).1.stuck, dr, false, 1, 0, 0, 0, 0, false, 0⟩ : Dd), meB mb Dv vb x, frB fb ch 6 lp sp np bp (some pb2) rp, ddB lp d, dpB pb2 (⟨x.th, (x.cap : Int), x.wd, x.ver, d.ch1, d.ch2, rp, 1, 0, 0, 0, 0, 0⟩ : Dp), raB ba wv (p.step r).2, raW wv n (p.step r).2]) hds how rfl (.t rfl) (List.Sublist.refl _) (⟨vb, fb2, lp2, pb2, dr, rfl, rfl⟩)
end Go.Proofs.YtbolanigdkgbdaaGreat
namespace Go.Proofs.YtbolanigdkgbdaaGreat
open Go Go.RowKit
set_option maxRecDepth 10000
set_option linter.unusedVariables false
set_option linter.unnecessarySimpa false
set_option linter.unusedSectionVars false
set_option maxHeartbeats 1000000
theorem fo_163_3 : fieldOff? Tryz.prog 163 3 = some 6 := by kernel_rfl
theorem me_Step5 {mb fb lp bb ba n k : Nat} {dv wv Dv Fv : Value} {l0 : List Int} {x : Me} {gs : List Nat} {sp np pp : Option Nat} {ch rp : Int} {d : Dd} {r : Rr} {NB : Hp} (hg : gs.length ≤ 900000) (hB : BuM k bb NB) (hr : r.okk n k) (hN : n ≤ 1000000) (hk : k ≤ 100000000) : FnX Tryz.prog 117 [.pointer (some ⟨mb, 0, none⟩), .pointer (some ⟨ba, 0, none⟩)] ([rdE zK dv l0]) (meB mb Dv Fv x :: rowE sK 187 Fv ((gs ++ [fb]).map ptS) :: frB fb ch 5 lp sp np (some bb) pp rp :: ddB lp d :: raB ba wv r :: raW wv n r :: NB) (fun v N => ∃ r2 : Rr, r2.okk n (k + 1) ∧ ((v = .bool false ∧ ∃ N1, BuM (k + 1) bb N1 ∧ N = meB mb Dv Fv x :: rowE sK 187 Fv ((gs ++ [fb]).map ptS) :: frB fb ch 5 lp sp np (some bb) pp rp :: ddB lp d :: raB ba wv r2 :: raW wv n r2 :: N1) ∨ (v = .bool true ∧ ∃ ev, N = [meB mb Dv (.slice none 0 0) (⟨x.th, x.cap, x.wd, x.ver, ev⟩ : Me), raB ba wv r2, raW wv n r2]) ∨ (v = .bool false ∧ ∃ pb2 rp2, Bd (k + 1) rp2 ∧ N = [frB fb ch 6 lp sp np (some bb) (some pb2) rp2, ddB lp d, dpB pb2 (⟨x.th, (x.cap : Int), x.wd, x.ver, d.ch1, d.ch2, rp2, 1, 0, 0, 0, 0, 0⟩ : Dp), meB mb Dv Fv x, rowE sK 187 Fv ((gs ++ [fb]).map ptS), raB ba wv r2, raW wv n r2]))) := by
 refine FnX.enter Tryz.func117 (by kernel_rfl) rfl (n := 200) rfl rfl (fun w df hds how => ?_)
 have hml : ((gs ++ [fb]).map ptS).length = gs.length + 1 := (by simp)
 refine Y ?_
 refine At.drawK [tt 0, tt 1, tt 2, tt 3, tt 4, tt 5, tt 6, tt 7, tt 8, tt 9, tt 10, tt 11, tt 12] (by kernel_rfl) (by kernel_rfl) ?_
 refine U ?_
 refine sJ rfl (R.lenRd Tryz.underlying161 (.t rfl) (wK M2)) ?_
 refine sJ rfl (R.subI (.t rfl) .c gO) ?_
 refine sJ rfl (R.indexRd Tryz.underlying161 sz_187 (.t rfl) (wK M2) (.t rfl) gO) ?_
 refine sJ rfl (R.as (R.loadRd Tryz.underlying187 rfl (.t rfl) (wK M2) (fun hg => by exact Ek.get0 rfl (by omega))) (fun _ => congrArg Subtype.val (last_pt (gs := gs) (fb := fb)))) ?_
 refine Y ?_
 refine cX rfl rfl rfl (.k rfl (.k rfl .nil)) rfl (.skip (.skip (.skip (.skip .all)))) .nil (bu_Step (wv := wv) (ba := ba) hB hr hN hk) Aprt.nil (fun v B hR => ⟨.all, ?_⟩); obtain ⟨e, r2, N1, rfl, rfl, hr2, he0, he1⟩ := hR; refine At.perm List.perm_append_comm ?_; refine At.re (N' := meB mb Dv Fv x :: rowE sK 187 Fv ((gs ++ [fb]).map ptS) :: frB fb ch 5 lp sp np (some bb) pp rp :: ddB lp d :: raB ba wv r2 :: raW wv n r2 :: N1) rfl ?_
 refine W ?_
 refine At.cond (.t rfl) (fun c7 => ?_) (fun c7 => ?_)
 ·
  obtain ⟨bx, bV, bL, bG, bW, rfl, hbx⟩ := he1 c7
  refine Z ?_
  refine At.condN (.t rfl) (fun c8 => ?_) (fun c8 => ?_)
  ·
   refine W ?_
   refine At.st1 rfl rfl sz_3 (.t rfl) (.t rfl) rfl rfl (.n U0) ⟨.all, ?_⟩
   refine W ?_
   refine At.st1 rfl rfl sz_161 (.t rfl) .c rfl rfl (.n U0) ⟨.all, ?_⟩
   refine W ?_
   refine eA rfl (R.lenSl Tryz.underlying161 (.t rfl)) ?_
   refine eA rfl (R.as (R.eql (.t rfl) .c) dR) ?_
   refine W ?_
   exact At.finalX (N' := [meB mb Dv (.slice none 0 0) (⟨x.th, x.cap, x.wd, x.ver, bx.e⟩ : Me), raB ba wv r2, raW wv n r2]) hds how rfl (.t rfl) sl (⟨r2, hr2, .inr (.inl ⟨rfl, _, rfl⟩)⟩)
  ·
   let F28 : Fr := [(175, pt fb 0), (176, pt mb 0), (177, pt mb 0), (178, pt mb 0), (179, true, .agg #[.int .i64 x.th, .int .i64 (x.cap : Int), .int .i64 x.wd, .int .i64 x.ver]), (180, pt fb 0), (181, pt fb 0), (182, pt fb 6), (183, pt bb 0), (184, pt bb 0), (185, pt bb 18), (186, iv bx.repl), (0, pt mb 0)]
   refine At.dag [tt 0, tt 1, tt 2, tt 3, tt 5, tt 6, tt 7] 6 (mF 13 [4, 8, 9, 10, 11, 12]) ([rdE zK dv l0]) (keepOf sl) (by kernel_rfl) (by kernel_rfl) (fun G hnode hdone => ?_)
   have g0 : ∀ (pb2 : Nat), At w 200 [rdE zK dv l0] (fs F28 8191) ([frB fb ch 6 lp sp np (some bb) (some pb2) bx.repl, ddB lp d, dpB pb2 (⟨x.th, (x.cap : Int), x.wd, x.ver, d.ch1, d.ch2, bx.repl, 1, 0, 0, 0, 0, 0⟩ : Dp), meB mb Dv Fv x, rowE sK 187 Fv ((gs ++ [fb]).map ptS), raB ba wv r2, raW wv n r2]) ([]) (G 0 (mF 13 [])) := fun pb2 => by
    refine hdone _ _ _ (by kernel_rfl) ?_
    refine W ?_
    refine eA rfl (R.as (R.eql (.t rfl) .c) dF) ?_
    refine W ?_
    exact At.finalX (N' := [frB fb ch 6 lp sp np (some bb) (some pb2) bx.repl, ddB lp d, dpB pb2 (⟨x.th, (x.cap : Int), x.wd, x.ver, d.ch1, d.ch2, bx.repl, 1, 0, 0, 0, 0, 0⟩ : Dp), meB mb Dv Fv x, rowE sK 187 Fv ((gs ++ [fb]).map ptS), raB ba wv r2, raW wv n r2]) hds how rfl (.t rfl) (List.Sublist.refl _) (⟨r2, hr2, .inr (.inr ⟨rfl, pb2, _, hbx.b_repl, rfl⟩)⟩)
   have g1 : ∀ (_ : True), At w 200 [rdE zK dv l0] (fs F28 8191) ([meB mb Dv Fv x, rowE sK 187 Fv ((gs ++ [fb]).map ptS), frB fb ch 5 lp sp np (some bb) pp rp, ddB lp d, raB ba wv r2, raW wv n r2, dbB bb bV bL bG bW bx]) ([]) (G 1 (mF 13 [12])) := fun _ => by
    refine hnode _ _ _ _ [(12, [], 0, (mF 13 []))] (by kernel_rfl) kz ?_
    ·
     refine cX rfl rfl rfl (.k rfl (.k rfl (.k rfl .nil))) rfl (.skip (.skip (.take (.take .nil)))) .nil (fr_splice (fb := fb) (lp := lp) (th := x.th) (cap := x.cap) (wd := x.wd) (ver := x.ver) (rp := rp) (rp2 := bx.repl) (d := d)) Aprt.nil (fun v B hR => ?_); obtain ⟨pb2, rfl, rfl⟩ := hR; refine ⟨kz, ?_⟩
     refine W ?_
     exact wk (g0 pb2)
   have g2 : ∀ (_ : True), At w 200 [rdE zK dv l0] (fs F28 6143) ([meB mb Dv Fv x, rowE sK 187 Fv ((gs ++ [fb]).map ptS), frB fb ch 5 lp sp np (some bb) pp rp, ddB lp d, raB ba wv r2, raW wv n r2, dbB bb bV bL bG bW bx]) ([]) (G 2 (mF 13 [11, 12])) := fun _ => by
    refine hnode _ _ _ _ [(11, [], 1, (mF 13 [12]))] (by kernel_rfl) kz ?_
    ·
     refine WD ?_
     exact wk (g1 trivial)
   have g3 : ∀ (_ : True), At w 200 [rdE zK dv l0] (fs F28 8175) ([meB mb Dv Fv x, rowE sK 187 Fv ((gs ++ [fb]).map ptS), frB fb ch 5 lp sp np (some bb) pp rp, ddB lp d, raB ba wv r2, raW wv n r2, dbB bb bV bL bG bW bx]) ([]) (G 2 (mF 13 [4, 12])) := fun _ => by
    refine hnode _ _ _ _ [(4, [], 1, (mF 13 [12]))] (by kernel_rfl) kz ?_
    ·
     refine WD ?_
     exact wk (g1 trivial)
   have g4 : ∀ (_ : True), At w 200 [rdE zK dv l0] (fs F28 6127) ([meB mb Dv Fv x, rowE sK 187 Fv ((gs ++ [fb]).map ptS), frB fb ch 5 lp sp np (some bb) pp rp, ddB lp d, raB ba wv r2, raW wv n r2, dbB bb bV bL bG bW bx]) ([]) (G 3 (mF 13 [4, 11, 12])) := fun _ => by
    refine hnode _ _ _ _ [(4, [], 2, (mF 13 [11, 12])), (11, [], 2, (mF 13 [4, 12]))] (by kernel_rfl) kz ?_
    refine ⟨?_, ?_⟩
    ·
     refine WD ?_
     exact wk (g2 trivial)
    ·
     refine WD ?_
     exact wk (g3 trivial)
   have g5 : ∀ (_ : True), At w 200 [rdE zK dv l0] (fs F28 4351) ([meB mb Dv Fv x, rowE sK 187 Fv ((gs ++ [fb]).map ptS), frB fb ch 5 lp sp np (some bb) pp rp, ddB lp d, raB ba wv r2, raW wv n r2, dbB bb bV bL bG bW bx]) ([]) (G 5 (mF 13 [8, 9, 10, 11, 12])) := fun _ => by
    refine hnode _ _ _ _ [(8, [tt 9, tt 10], 2, (mF 13 [11, 12]))] (by kernel_rfl) kz ?_
    ·
     refine WD ?_
     exact wk (g2 trivial)
   have g6 : ∀ (_ : True), At w 200 [rdE zK dv l0] (fs F28 4335) ([meB mb Dv Fv x, rowE sK 187 Fv ((gs ++ [fb]).map ptS), frB fb ch 5 lp sp np (some bb) pp rp, ddB lp d, raB ba wv r2, raW wv n r2, dbB bb bV bL bG bW bx]) ([]) (G 6 (mF 13 [4, 8, 9, 10, 11, 12])) := fun _ => by
    refine hnode _ _ _ _ [(4, [], 5, (mF 13 [8, 9, 10, 11, 12])), (8, [tt 9, tt 10], 3, (mF 13 [4, 11, 12]))] (by kernel_rfl) kz ?_
    refine ⟨?_, ?_⟩
    ·
     refine WD ?_
     exact wk (g5 trivial)
    ·
     refine WD ?_
     exact wk (g4 trivial)
   refine W ?_
   exact wk (g6 trivial)
 ·
  refine W ?_
  refine eA rfl (R.as (R.eql (.t rfl) .c) dF) ?_
  refine W ?_
  exact At.finalX (N' := meB mb Dv Fv x :: rowE sK 187 Fv ((gs ++ [fb]).map ptS) :: frB fb ch 5 lp sp np (some bb) pp rp :: ddB lp d :: raB ba wv r2 :: raW wv n r2 :: N1) hds how rfl (.t rfl) (List.Sublist.refl _) (⟨r2, hr2, .inl ⟨rfl, N1, he0 c7, rfl⟩⟩)
end Go.Proofs.YtbolanigdkgbdaaGreat
namespace Go.Proofs.YtbolanigdkgbdaaGreat
open Go Go.RowKit
set_option maxRecDepth 10000
set_option linter.unusedVariables false
set_option linter.unusedSectionVars false
set_option maxHeartbeats 1000000
instance : Inhabited Ent := ⟨.blk 0 (.cells #[] 0)⟩
theorem permOf (env : List Ent) (a b : List Nat) (h : a.isPerm b = true) (T : Hp) : ((a.map fun i => env.getD i default) ++ T).Perm ((b.map fun i => env.getD i default) ++ T) :=
  ((List.isPerm_iff.1 h).map _).append_right T
theorem FnX.nilRow {α : Type} (kk : Ek α) (E : TypeId) {P : Program} {f : FuncId} {args : List Value} {S A : Hp} {R : Value → Hp → Prop} (h : FnX P f args S A R) : FnX P f args S A (fun v N => ∃ N0, R v N0 ∧ N = rowE kk E (.slice none 0 0) [] :: N0) :=
  ⟨h.1, fun w hw => Calls.mono (h.2 w hw) fun e w' ⟨v, N, h1, h2, h3⟩ => ⟨v, _, ⟨N, h1, rfl⟩, h2, by letI : Df := ⟨[], keys A⟩; exact St.nilRow h3 kk E⟩⟩
theorem FnX.stepS {P : Program} {f : FuncId} {args : List Value} {S A T A' : Hp} {R R' : Value → Hp → Prop} (h : FnX P f args S A R) (hp : (A ++ T).Perm A') (hR : ∀ v B, R v B → ∃ M N' : Hp, M.Sublist (B ++ T) ∧ M.Perm N' ∧ R' v N') : FnX P f args S A' R' :=
  ((h.frame T).conv fun v N ⟨B, h1, h2⟩ => by subst h2; exact hR v B h1).perm hp
theorem Dd.bd.c1 {k : Nat} {d : Dd} (h : d.bd k) : Bd k d.ch1 := by unfold Dd.ch1; split; exact h.b_l; exact Bd.sm (by decide)
theorem Dd.bd.c2 {k : Nat} {d : Dd} (h : d.bd k) : Bd k d.ch2 := by
  unfold Dd.ch2; split
  · split
    · exact Bd.sm (by decide)
    · exact h.b_n
  · exact Bd.sm (by decide)
theorem Dd.bd.c3 {k : Nat} {d : Dd} (h : d.bd k) : Bd k d.ch3 := by unfold Dd.ch3; split; exact h.b_after; exact Bd.sm (by decide)
theorem Dd.bd.ok {k : Nat} {d : Dd} (h : d.bd k) (hk : k ≤ 100000000) : d.ok := by
  have h1 := h.b_chunk.big hk; have h2 := h.b_l.big hk; have h3 := h.b_n.big hk; have h4 := h.b_w.big hk
  exact ⟨by omega, by omega, by omega, by omega⟩
theorem Dq.bd.ok {k : Nat} {x : Dq} (h : x.bd k) (hk : k ≤ 100000000) : x.ok := by
  have h1 := h.b_chunk.big hk; have h2 := h.b_mate.big hk; have h3 := h.ii; have h4 := h.cap
  exact ⟨by omega, by omega, by omega, by omega⟩
theorem Dp.bd.ok {k : Nat} {x : Dp} (h : x.bd k) (hk : k ≤ 100000000) : x.ok := by
  have h1 := h.b_chunk.big hk; have h2 := h.b_mate.big hk; have h3 := h.th; have h4 := h.b_cur.big hk; have h5 := h.b_n.big hk
  exact ⟨by omega, by omega, by omega, by omega, by omega⟩
theorem Dn.bd.ok {k : Nat} {x : Dn} (h : x.bd k) (hk : k ≤ 100000000) : x.ok := by
  have h1 := h.b_e.big hk; have h2 := h.b_v.big hk; have h3 := h.tt; have h4 := h.th
  exact ⟨by omega, by omega, by omega⟩
def FrM (k fb : Nat) (N : Hp) : Prop := ∃ (ch pt rp : Int) (lp : Nat) (sp np bp pp : Option Nat) (d : Dd), d.bd k ∧ Bd k rp ∧
  ((pt = 1 ∧ np = none ∧ N = [frB fb ch pt lp sp np bp pp rp, ddB lp d]) ∨
   (pt = 2 ∧ np = none ∧ ∃ qb q, sp = some qb ∧ q.bd k ∧ N = [frB fb ch pt lp sp np bp pp rp, ddB lp d, dqB qb q]) ∨
   (pt = 3 ∧ np = none ∧ N = [frB fb ch pt lp sp np bp pp rp, ddB lp d]) ∨
   (pt = 4 ∧ np = none ∧ N = [frB fb ch pt lp sp np bp pp rp, ddB lp d]) ∨
   (pt = 4 ∧ ∃ nb Lv y, np = some nb ∧ y.bd k ∧ N = [frB fb ch pt lp sp np bp pp rp, ddB lp d, dnB nb Lv y, rowE zK 3 Lv y.l]) ∨
   (pt = 5 ∧ ∃ bb NB, bp = some bb ∧ BuM k bb NB ∧ N = frB fb ch pt lp sp np bp pp rp :: ddB lp d :: NB) ∨
   (pt = 6 ∧ ∃ pb p, pp = some pb ∧ p.bd k ∧ N = [frB fb ch pt lp sp np bp pp rp, ddB lp d, dpB pb p]))
inductive FrsM (k : Nat) : List Nat → Hp → Prop
  | nil : FrsM k [] []
  | snoc {gs : List Nat} {g : Nat} {NF NG : Hp} : FrsM k gs NG → FrM k g NF → FrsM k (gs ++ [g]) (NF ++ NG)
theorem BuM.le {k j b : Nat} {N : Hp} (h : BuM k b N) (hj : k ≤ j) : BuM j b N := by
  obtain ⟨x, Vv, Lv, Gv, Wv, hx, h⟩ := h
  refine ⟨x, Vv, Lv, Gv, Wv, hx.le hj, ?_⟩
  rcases h with ⟨vs, l, h1, h2, h3⟩ | ⟨gs, h1, h2, h3, h4, h5, h6, h7⟩ | ⟨ws, h1, h2, h3, h4, h5, h6⟩ | h
  · exact .inl ⟨vs, l, h1, h2.le hj, h3⟩
  · exact .inr (.inl ⟨gs, h1, h2, h3, h4, h5, h6, fun g hg => (h7 g hg).le hj⟩)
  · exact .inr (.inr (.inl ⟨ws, h1, h2, h3, h4, h5, fun w hw => (h6 w hw).le hj⟩))
  · exact .inr (.inr (.inr h))
theorem FrM.le {k j fb : Nat} {N : Hp} (h : FrM k fb N) (hj : k ≤ j) : FrM j fb N := by
  obtain ⟨ch, pt, rp, lp, sp, np, bp, pp, d, hd, hr, h⟩ := h
  refine ⟨ch, pt, rp, lp, sp, np, bp, pp, d, hd.le hj, hr.le hj, ?_⟩
  rcases h with h | ⟨h1, h2, qb, q, h3, h4, h5⟩ | h | h | ⟨h1, nb, Lv, y, h2, h3, h4⟩ | ⟨h1, bb, NB, h2, h3, h4⟩ | ⟨h1, pb, p, h2, h3, h4⟩
  · exact .inl h
  · exact .inr (.inl ⟨h1, h2, qb, q, h3, h4.le hj, h5⟩)
  · exact .inr (.inr (.inl h))
  · exact .inr (.inr (.inr (.inl h)))
  · exact .inr (.inr (.inr (.inr (.inl ⟨h1, nb, Lv, y, h2, h3.le hj, h4⟩))))
  · exact .inr (.inr (.inr (.inr (.inr (.inl ⟨h1, bb, NB, h2, h3.le hj, h4⟩)))))
  · exact .inr (.inr (.inr (.inr (.inr (.inr ⟨h1, pb, p, h2, h3.le hj, h4⟩)))))
theorem FrsM.le {k j : Nat} {gs : List Nat} {N : Hp} (h : FrsM k gs N) (hj : k ≤ j) : FrsM j gs N := by
  induction h with
  | nil => exact .nil
  | snoc _ h2 ih => exact .snoc ih (h2.le hj)
structure Me.ok (x : Me) : Prop where
  th : 1 ≤ x.th ∧ x.th ≤ 16
  cap : 1 ≤ x.cap ∧ x.cap ≤ 16
  wd : 0 ≤ x.wd ∧ x.wd ≤ 1000000
def MeT (k : Nat) (Fv : Value) (N : Hp) : Prop := ∃ gs fb NN, gs.length < k ∧ N = rowE sK 187 Fv ((gs ++ [fb]).map ptS) :: NN ∧ FrsM k (gs ++ [fb]) NN
def MeR (n k mb ba : Nat) (wv dv : Value) (l0 : List Int) (x0 : Me) : Value → Hp → Prop := fun v N => ∃ (e : Bool) (r : Rr) (x : Me) (Dv Fv : Value) (l : List Int) (NR : Hp), v = .bool e ∧ N = raB ba wv r :: raW wv n r :: meB mb Dv Fv x :: NR ∧
  r.okk n (k + 1) ∧ DrO dv l0 Dv l ∧ (e = false → x = x0 ∧ MeT (k + 1) Fv NR) ∧ (e = true → NR = [])
theorem FrsM.inv {k : Nat} {fs : List Nat} {N : Hp} (h : FrsM k fs N) : ∀ {gs : List Nat} {fb : Nat}, fs = gs ++ [fb] → ∃ NF NG, N = NF ++ NG ∧ FrM k fb NF ∧ FrsM k gs NG := by
  cases h with
  | nil => intro gs fb h; simp at h
  | snoc h1 h2 =>
    intro gs fb h
    obtain ⟨rfl, h3⟩ := List.append_inj' h rfl
    injection h3 with h3
    subst h3
    exact ⟨_, _, rfl, h2, h1⟩
theorem me_Step {n k mb ba : Nat} {wv dv Dv Fv : Value} {l0 l : List Int} {x : Me} {r : Rr} {NR : Hp} (hD : DrO dv l0 Dv l) (hx : x.ok) (hT : MeT k Fv NR) (hr : r.okk n k) (hn : n ≤ 1000000) (hk : k ≤ 800000) :
    FnX Tryz.prog 117 [.pointer (some ⟨mb, 0, none⟩), .pointer (some ⟨ba, 0, none⟩)] [rdE zK dv l0] (raB ba wv r :: raW wv n r :: meB mb Dv Fv x :: NR) (MeR n k mb ba wv dv l0 x) := by
  have hk2 : k ≤ 100000000 := by omega
  have hf := hr.few hk2; have hw := hr.big hk2; have hl0 := hr.len
  have hk1 : k ≤ k + 1 := Nat.le_succ k
  obtain ⟨gs, fb, NN, hgl, rfl, hF⟩ := hT
  obtain ⟨NF, NG, rfl, hfr, hfs⟩ := hF.inv rfl
  have hfs1 := hfs.le hk1
  have hgl1 : gs.length < k + 1 := by omega
  have hg9 : gs.length ≤ 900000 := by omega
  have hxt := hx.th; have hxc := hx.cap
  have hxi : 1 ≤ (x.cap : Int) ∧ (x.cap : Int) ≤ 16 := by omega
  have h00 : Bd (k + 1) 0 := Bd.sm (by decide)
  -- what goes on with the same frame
  have go : ∀ {Dv2 : Value} {l2 : List Int} {r2 : Rr} {N2 : Hp}, DrO dv l0 Dv2 l2 → r2.okk n (k + 1) → FrM (k + 1) fb N2 → MeR n k mb ba wv dv l0 x (.bool false) (raB ba wv r2 :: raW wv n r2 :: meB mb Dv2 Fv x :: rowE sK 187 Fv ((gs ++ [fb]).map ptS) :: (N2 ++ NG)) := fun hD2 hr2 h2 =>
    ⟨false, _, x, _, Fv, _, _, rfl, rfl, hr2, hD2, fun _ => ⟨rfl, gs, fb, _, hgl1, rfl, .snoc hfs1 h2⟩, fun h => nomatch h⟩
  obtain ⟨ch, pt, rp, lp, sp, np, bp, pp, d, hd, hrp, h⟩ := hfr
  have hd1 := hd.le hk1; have hrp1 := hrp.le hk1
  rcases h with ⟨rfl, rfl, rfl⟩ | ⟨rfl, rfl, qb, q, rfl, hq, rfl⟩ | ⟨rfl, rfl, rfl⟩ | ⟨rfl, rfl, rfl⟩ | ⟨rfl, nb, Lv, y, rfl, hy, rfl⟩ | ⟨rfl, bb, NB, rfl, hB, rfl⟩ | ⟨rfl, pb, p, rfl, hp, rfl⟩
  · have hst := hd.step hr
    refine FnX.stepS (T := NG) (me_Step1 (ba := ba) (wv := wv) (Fv := Fv) (x := x) (gs := gs) (fb := fb) (sp := sp) (np := none) (bp := bp) (pp := pp) (ch := ch) (rp := rp) (lp := lp) hg9 hD (hd.ok hk2) hl0 hn hf hw) (permOf [_, _, _, _, _, _] [0, 1, 2, 3, 4, 5] [4, 5, 0, 1, 2, 3] rfl _) ?_
    rintro v B ⟨Dv2, l2, hD2, rfl, ⟨hz, rfl⟩ | ⟨hz, qb, rfl⟩⟩
    · exact ⟨_, _, .refl _, permOf [_, _, _, _, _, _] [0, 1, 2, 3, 4, 5] [4, 5, 0, 1, 2, 3] rfl _, go hD2 hst.2 ⟨ch, 1, rp, lp, sp, none, bp, pp, _, hst.1, hrp1, .inl ⟨rfl, rfl, rfl⟩⟩⟩
    · refine ⟨_, _, .refl _, permOf [_, _, _, _, _, _, _] [0, 1, 2, 3, 4, 5, 6] [5, 6, 1, 2, 3, 4, 0] rfl _, go hD2 hst.2 ⟨ch, 2, rp, lp, some qb, none, bp, pp, _, hst.1, hrp1, .inr (.inl ⟨rfl, rfl, qb, _, rfl, ?_, rfl⟩)⟩⟩
      exact ⟨hst.1.c1, hst.1.c2, h00, hxi, by show (0 : Int) ≤ 0 ∧ (0 : Int) ≤ 32; decide, .inr (by show (0 : Int) < cellsD (x.cap : Int) (d.step r).1.ch2; have := cellsD_le (m := Dd.ch2 (d.step r).1) hxi; omega)⟩
  · have hst := hq.step hr
    refine FnX.stepS (T := ddB lp d :: NG) (me_Step2 (l := []) (sp := none) (d := d) (ba := ba) (wv := wv) (dv := dv) (l0 := l0) (Dv := Dv) (Fv := Fv) (x := x) (gs := gs) (fb := fb) (np := none) (bp := bp) (pp := pp) (ch := ch) (rp := rp) (lp := lp) (qb := qb) hg9 (hq.ok hk2) hl0 hn hf hw) (permOf [_, _, _, _, _, _, _] [0, 1, 2, 3, 4, 5, 6] [4, 5, 0, 1, 2, 6, 3] rfl _) ?_
    rintro v B ⟨rfl, ⟨hz, rfl⟩ | ⟨hz, rfl⟩⟩
    · exact ⟨_, _, .refl _, permOf [_, _, _, _, _, _, _] [0, 1, 2, 3, 4, 5, 6] [4, 5, 0, 1, 2, 6, 3] rfl _, go hD hst.2 ⟨ch, 2, rp, lp, some qb, none, bp, pp, _, hd1, hrp1, .inr (.inl ⟨rfl, rfl, qb, _, rfl, hst.1, rfl⟩)⟩⟩
    · exact ⟨[_, _, _, _, _, _] ++ NG, _, (by (apply List.Sublist.cons_cons; apply List.Sublist.cons_cons; apply List.Sublist.cons_cons; apply List.Sublist.cons; exact List.Sublist.refl _)), permOf [_, _, _, _, _, _] [0, 1, 2, 3, 4, 5] [3, 4, 0, 1, 2, 5] rfl _, go hD hst.2 ⟨ch, 3, rp, lp, some qb, none, bp, pp, _, hd1, hrp1, .inr (.inr (.inl ⟨rfl, rfl, rfl⟩))⟩⟩
  · have hc := hd.c1.big hk2
    refine FnX.stepS (T := NG) (me_Step3 (l := []) (ba := ba) (wv := wv) (dv := dv) (l0 := l0) (Dv := Dv) (Fv := Fv) (x := x) (gs := gs) (fb := fb) (sp := sp) (np := none) (bp := bp) (pp := pp) (ch := ch) (rp := rp) (lp := lp) hg9 (by omega) hl0 hn hf hw) (permOf [_, _, _, _, _, _] [0, 1, 2, 3, 4, 5] [4, 5, 0, 1, 2, 3] rfl _) ?_
    rintro v B ⟨rfl, ⟨hz, rfl⟩ | ⟨hz, pb2, rfl⟩⟩
    · exact ⟨_, _, .refl _, permOf [_, _, _, _, _, _] [0, 1, 2, 3, 4, 5] [4, 5, 0, 1, 2, 3] rfl _, go hD (hr.load _) ⟨ch, 4, rp, lp, sp, none, bp, pp, _, hd1, hrp1, .inr (.inr (.inr (.inl ⟨rfl, rfl, rfl⟩)))⟩⟩
    · refine ⟨_, _, .refl _, permOf [_, _, _, _, _, _, _] [0, 1, 2, 3, 4, 5, 6] [5, 6, 3, 4, 0, 1, 2] rfl _, go hD (hr.load _) ⟨ch, 6, _, lp, sp, none, bp, some pb2, _, hd1, (hr.pk _).up, .inr (.inr (.inr (.inr (.inr (.inr ⟨rfl, pb2, _, rfl, ?_, rfl⟩)))))⟩⟩
      exact ⟨hd1.c1, hd1.c2, (hr.pk _).up, h00, h00, h00, h00, h00, by show 0 ≤ x.th ∧ x.th ≤ 1000; omega⟩
  · refine FnX.stepS (T := ddB lp d :: NG) (me_Step4a (l := []) (np := none) (ba := ba) (wv := wv) (dv := dv) (l0 := l0) (Dv := Dv) (Fv := Fv) (x := x) (gs := gs) (fb := fb) (sp := sp) (bp := bp) (pp := pp) (ch := ch) (rp := rp) (lp := lp) (d := d) hg9 hl0 hn hf hw) (permOf [_, _, _, _, _, _] [0, 1, 2, 3, 4, 5] [3, 4, 0, 1, 2, 5] rfl _) ?_
    rintro v B ⟨nb, rfl, rfl⟩
    refine ⟨_, _, .refl _, permOf [_, _, _, _, _, _, _, _] [0, 1, 2, 3, 4, 5, 6, 7] [4, 5, 2, 6, 3, 7, 0, 1] rfl _, go hD (hr.load _) ⟨ch, 4, rp, lp, sp, some nb, bp, pp, _, hd1, hrp1, .inr (.inr (.inr (.inr (.inl ⟨rfl, nb, _, _, rfl, ?_, rfl⟩))))⟩⟩
    exact ⟨h00, h00, hxt, by show (0 : Int) ≤ 0 ∧ 0 ≤ x.th; omega, .inr (by show 0 < x.th; omega), by show (0 : Int) ≤ 0; decide⟩
  · have hst := hy.step hr
    have hyl : y.l.length ≤ 10000 := by have := hy.ll; have := hy.tt; have := hy.th; omega
    by_cases hz : (y.step r).1.line = 0
    · refine FnX.stepS (T := NG) (FnX.nilRow iK 43 (me_Step4c (l := []) (np := none) (ba := ba) (wv := wv) (dv := dv) (l0 := l0) (Dv := Dv) (Fv := Fv) (x := x) (gs := gs) (fb := fb) (sp := sp) (bp := bp) (pp := pp) (ch := ch) (rp := rp) (lp := lp) (d := d) (Lv := Lv) hg9 (hy.ok hk2) hyl hz hl0 hn hf hw)) (permOf [_, _, _, _, _, _, _, _] [0, 1, 2, 3, 4, 5, 6, 7] [6, 7, 0, 1, 2, 3, 4, 5] rfl _) ?_
      rintro v B ⟨N0, ⟨Lv2, bb, rfl, rfl⟩, rfl⟩
      refine ⟨_, _, .refl _, permOf [_, _, _, _, _, _, _, _, _] [0, 1, 2, 3, 4, 5, 6, 7, 8] [3, 4, 5, 8, 6, 7, 1, 2, 0] rfl _, go hD hst.2 (N2 := [_, _, _, _, _]) ⟨ch, 5, rp, lp, sp, some nb, some bb, pp, _, hd1, hrp1, .inr (.inr (.inr (.inr (.inr (.inl ⟨rfl, bb, [_, _, _], rfl, ?_, rfl⟩)))))⟩⟩
      exact ⟨_, Lv2, _, _, _, ⟨hd1.c1, hd1.c2, hd1.c3, h00, h00, h00, h00, hxc, hx.wd⟩, .inl ⟨_, [], rfl, (fun y hy => nomatch hy), .inl ⟨rfl, rfl, rfl⟩⟩⟩
    · refine FnX.stepS (T := NG) (me_Step4b (l := []) (np := none) (ba := ba) (wv := wv) (dv := dv) (l0 := l0) (Dv := Dv) (Fv := Fv) (x := x) (gs := gs) (fb := fb) (sp := sp) (bp := bp) (pp := pp) (ch := ch) (rp := rp) (lp := lp) (d := d) (Lv := Lv) hg9 (hy.ok hk2) hyl hz hl0 hn hf hw) (permOf [_, _, _, _, _, _, _, _] [0, 1, 2, 3, 4, 5, 6, 7] [6, 7, 0, 1, 2, 3, 4, 5] rfl _) ?_
      rintro v B ⟨Lv2, rfl, rfl⟩
      exact ⟨_, _, .refl _, permOf [_, _, _, _, _, _, _, _] [0, 1, 2, 3, 4, 5, 6, 7] [2, 3, 4, 7, 5, 6, 0, 1] rfl _, go hD hst.2 ⟨ch, 4, rp, lp, sp, some nb, bp, pp, _, hd1, hrp1, .inr (.inr (.inr (.inr (.inl ⟨rfl, nb, _, _, rfl, hst.1, rfl⟩))))⟩⟩
  · refine FnX.stepS (T := NG) (me_Step5 (ba := ba) (wv := wv) (dv := dv) (l0 := l0) (Dv := Dv) (Fv := Fv) (x := x) (gs := gs) (fb := fb) (sp := sp) (np := np) (pp := pp) (ch := ch) (rp := rp) (lp := lp) (d := d) hg9 hB hr hn hk2) (permOf [_, _, _, _, _, _] [0, 1, 2, 3, 4, 5] [4, 5, 0, 1, 2, 3] rfl (NB ++ NG)) ?_
    rintro v B ⟨r2, hr2, ⟨rfl, N1, hB1, rfl⟩ | ⟨rfl, ev, rfl⟩ | ⟨rfl, pb2, rp2, hp2, rfl⟩⟩
    · exact ⟨_, _, .refl _, permOf [_, _, _, _, _, _] [0, 1, 2, 3, 4, 5] [4, 5, 0, 1, 2, 3] rfl (N1 ++ NG), go hD hr2 (N2 := _ :: _ :: N1) ⟨ch, 5, rp, lp, sp, np, some bb, pp, _, hd1, hrp1, .inr (.inr (.inr (.inr (.inr (.inl ⟨rfl, bb, N1, rfl, hB1, rfl⟩)))))⟩⟩
    · exact ⟨[_, _, _], _, List.sublist_append_left _ _, permOf [_, _, _] [0, 1, 2] [1, 2, 0] rfl [], true, r2, _, Dv, _, l, [], rfl, rfl, hr2, hD, (fun h => nomatch h), fun _ => rfl⟩
    · refine ⟨_, _, .refl _, permOf [_, _, _, _, _, _, _] [0, 1, 2, 3, 4, 5, 6] [5, 6, 3, 4, 0, 1, 2] rfl _, go hD hr2 ⟨ch, 6, rp2, lp, sp, np, some bb, some pb2, _, hd1, hp2, .inr (.inr (.inr (.inr (.inr (.inr ⟨rfl, pb2, _, rfl, ?_, rfl⟩)))))⟩⟩
      exact ⟨hd1.c1, hd1.c2, hp2, h00, h00, h00, h00, h00, by show 0 ≤ x.th ∧ x.th ≤ 1000; omega⟩
  · have hst := hp.step hr
    have hpo := hp.ok hk2
    by_cases hz : (p.step r).1.line = 0
    · by_cases hs : (p.step r).1.stuck = 0
      · refine FnX.stepS (T := NG) (me_Step6b (l := []) (pp := none) (ba := ba) (wv := wv) (dv := dv) (l0 := l0) (Dv := Dv) (Fv := Fv) (x := x) (gs := gs) (fb := fb) (sp := sp) (np := np) (bp := bp) (ch := ch) (rp := rp) (lp := lp) (d := d) (pb := pb) hg9 hD hpo hz hs hl0 hn hf hw) (permOf [_, _, _, _, _, _, _] [0, 1, 2, 3, 4, 5, 6] [5, 6, 0, 1, 2, 3, 4] rfl _) ?_
        rintro v B ⟨Fv2, rfl, rfl⟩
        rcases List.eq_nil_or_concat gs with h | ⟨gs', fb', h⟩
        · subst h
          exact ⟨[_, _, _], _, (by (apply List.Sublist.cons_cons; apply List.Sublist.cons; apply List.Sublist.cons_cons; apply List.Sublist.cons_cons; exact List.nil_sublist _)), permOf [_, _, _] [0, 1, 2] [1, 2, 0] rfl [], true, _, _, Dv, Fv2, l, [], rfl, rfl, hst.2, hD, (fun h => nomatch h), fun _ => rfl⟩
        · rw [List.concat_eq_append] at h
          subst h
          have e : decide ((gs' ++ [fb']).length = 0) = false := decide_eq_false (by simp)
          rw [e]
          exact ⟨_, _, .refl _, permOf [_, _, _, _] [0, 1, 2, 3] [2, 3, 0, 1] rfl _, false, _, x, Dv, Fv2, l, _, rfl, rfl, hst.2, hD, fun _ => ⟨rfl, gs', fb', _, by simp at hgl1; omega, rfl, hfs1⟩, fun h => nomatch h⟩
      · refine FnX.stepS (T := NG) (me_Step6c (l := []) (pp := none) (ba := ba) (wv := wv) (dv := dv) (l0 := l0) (Dv := Dv) (Fv := Fv) (x := x) (gs := gs) (fb := fb) (sp := sp) (np := np) (bp := bp) (ch := ch) (rp := rp) (lp := lp) (d := d) (pb := pb) hg9 hD hpo hz hs hl0 hn hf hw) (permOf [_, _, _, _, _, _, _] [0, 1, 2, 3, 4, 5, 6] [5, 6, 0, 1, 2, 3, 4] rfl _) ?_
        rintro v B ⟨vb, fb2, lp2, pb2, dr, rfl, rfl⟩
        refine ⟨_, _, .refl _, permOf [_, _, _, _, _, _, _, _, _] [0, 1, 2, 3, 4, 5, 6, 7, 8] [7, 8, 3, 0, 1, 2, 4, 5, 6] rfl _, false, _, x, Dv, vb, l, _, rfl, rfl, hst.2, hD, fun _ => ⟨rfl, gs ++ [fb], fb2, _, by simp; omega, rfl, FrsM.snoc (NF := [_, _]) (NG := _ :: _ :: _ :: NG) (FrsM.snoc (NF := [_, _, _]) hfs1 ?_) ?_⟩, fun h => nomatch h⟩
        · exact ⟨ch, 6, rp, lp, sp, np, bp, some pb2, _, hd1, hrp1, .inr (.inr (.inr (.inr (.inr (.inr ⟨rfl, pb2, _, rfl, ⟨hd1.c1, hd1.c2, hrp1, h00, h00, h00, h00, h00, by show 0 ≤ x.th ∧ x.th ≤ 1000; omega⟩, rfl⟩)))))⟩
        · exact ⟨_, 1, 0, lp2, none, none, none, none, _, ⟨hst.1.b_stuck, h00, h00, h00, h00, h00⟩, h00, .inl ⟨rfl, rfl, rfl⟩⟩
    · refine FnX.stepS (T := NG) (me_Step6a (l := []) (pp := none) (ba := ba) (wv := wv) (dv := dv) (l0 := l0) (Dv := Dv) (Fv := Fv) (x := x) (gs := gs) (fb := fb) (sp := sp) (np := np) (bp := bp) (ch := ch) (rp := rp) (lp := lp) (d := d) (pb := pb) hg9 hD hpo hz hl0 hn hf hw) (permOf [_, _, _, _, _, _, _] [0, 1, 2, 3, 4, 5, 6] [5, 6, 0, 1, 2, 3, 4] rfl _) ?_
      rintro v B ⟨rfl, rfl⟩
      exact ⟨_, _, .refl _, permOf [_, _, _, _, _, _, _] [0, 1, 2, 3, 4, 5, 6] [5, 6, 0, 1, 2, 3, 4] rfl _, go hD hst.2 ⟨ch, 6, rp, lp, sp, np, bp, some pb, _, hd1, hrp1, .inr (.inr (.inr (.inr (.inr (.inr ⟨rfl, pb, _, rfl, hst.1, rfl⟩)))))⟩⟩
end Go.Proofs.YtbolanigdkgbdaaGreat
