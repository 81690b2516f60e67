/- Part of the proof: lemmas for what the last file states; no condition. -/
import Derived.Test.YtbolanigdkgbdaaGreatZF8
set_option linter.unusedSectionVars false
namespace Go.Proofs.YtbolanigdkgbdaaGreat
open Go Go.RowKit
set_option maxRecDepth 10000
set_option linter.unusedVariables false
set_option linter.unnecessarySimpa false
set_option maxHeartbeats 1000000
theorem fo_205_12 : fieldOff? Tryz.prog 205 12 = some 17 := by kernel_rfl
theorem fo_205_14 : fieldOff? Tryz.prog 205 14 = some 19 := by kernel_rfl
theorem fo_205_3 : fieldOff? Tryz.prog 205 3 = some 6 := by kernel_rfl
theorem fo_224_0 : fieldOff? Tryz.prog 224 0 = some 0 := by kernel_rfl
theorem fo_224_1 : fieldOff? Tryz.prog 224 1 = some 1 := by kernel_rfl
theorem fo_23_2 : fieldOff? Tryz.prog 23 2 = some 2 := by kernel_rfl
theorem sz_203 : (Tryz.prog.info? 203).map (·.size) = some 1 := by kernel_rfl
theorem sz_224 : (Tryz.prog.info? 224).map (·.size) = some 2 := by kernel_rfl
theorem Cl.keptApp [Df] {w0 : World} {S N H B : Hp} {a : Ent} : Cl w0 S (a :: (N ++ B)) H (Kept (S ++ (N ++ H))) := Cl.kept fun e he => by
  simp only [List.mem_append, List.mem_cons] at he ⊢
  rcases he with h | h | h
  · exact .inl h
  · exact .inr (.inl (.inr (.inl h)))
  · exact .inr (.inr h)
theorem mul_bd {a c : Int} (ha : 0 ≤ a ∧ a ≤ 60) (hc : 0 ≤ c ∧ c ≤ 55) : 0 ≤ a * c ∧ a * c ≤ 3300 := by
  constructor
  · exact Int.mul_nonneg ha.1 hc.1
  · calc a * c ≤ 60 * 55 := Int.mul_le_mul ha.2 hc.2 hc.1 (by decide)
      _ = 3300 := rfl
theorem chunksF_le (cap : Nat) (at_ after least : Int) (G : List (List Itm)) : (chunksF cap at_ after least G).length ≤ G.length := by
  unfold chunksF; split <;> simp
theorem chunk_bd {cap : Nat} {at_ after least : Int} {G : List (List Itm)} {cs : List (Chk × List Cel)} (h : cs.map (fun x : Chk × List Cel => (hd x.1, x.2)) = chunksF cap at_ after least G) (ha : -1000000 ≤ at_ ∧ at_ ≤ 1000000) (hc : 1 ≤ cap ∧ cap ≤ 16) (hg : G.length ≤ 60) :
    ∀ x ∈ cs, -1152921504606846976 ≤ x.1.a0 ∧ x.1.a0 ≤ 1152921504606846976 ∧ x.2.length ≤ 100 := fun x hx => by
  have hm : (hd x.1, x.2) ∈ chunksF cap at_ after least G := by rw [← h]; exact List.mem_map.2 ⟨x, hx, rfl⟩
  unfold chunksF at hm
  split at hm
  · rename_i hG
    obtain ⟨i, hi, he⟩ := List.mem_map.1 hm
    rw [List.mem_range] at hi
    unfold chunkS at he
    have e1 := congrArg (fun z : List Int × List Cel => gE z.1 0) he
    have e2 := congrArg (fun z : List Int × List Cel => z.2.length) he
    have e1' : at_ + (i : Int) * (7 + 3 * (cap : Int)) = x.1.a0 := e1
    have hb := mul_bd (a := (i : Int)) (c := 7 + 3 * (cap : Int)) (by omega) (by omega)
    have hl : (gE G (i : Int)).length ≤ cap := hG _ (gE_mem' (by omega))
    have e2' : (cellsP cap (gE G (i : Int)) (gE G (i : Int)).length).length = x.2.length := e2
    rw [cellsP_len (Nat.le_refl _) hl] at e2'
    omega
  · cases hm
theorem db_Step5 {b ba n : Nat} {wv Vv Lv Gv Wv : Value} {x : Db} {r : Rr} (hx : x.ok) (hl : x.line = 5) (hn : r.w.length = n) (hN : n ≤ 1000000) (hf : r.few) (hw : r.mid 1152921504606846976) {gs : List (SV × List Itm)} (hg : gs.length ≤ 60) (hwd : 0 ≤ x.wd ∧ x.wd ≤ 1000000) : FnX Tryz.prog 147 [.pointer (some ⟨b, 0, none⟩), .pointer (some ⟨ba, 0, none⟩)] ([]) (dbB b Vv Lv Gv Wv x :: raB ba wv r :: raW wv n r :: rowE sK 40 Gv (gs.map (·.1)) :: seg iK 43 gs) (fun v N => (v = .bool true ∧ ((r.peek 2) < 1 ∨ x.wd - (((gs.map (·.1)).length : Int) * (7 + 3 * (x.cap : Int))) < (r.peek 2) ∨ (chunksF x.cap (r.peek 2) x.after x.min (gs.map (·.2))).length = 0) ∧ N = dbB b Vv Lv Gv Wv (⟨x.th, x.cap, x.wd, x.ver, x.chunk, x.mate, x.after, 0, x.i, x.min, (r.peek 2), x.xk, x.xv, x.xd, x.repl, 14⟩ : Db) :: raB ba wv (r.add 2 (((gs.map (·.1)).length : Int) * (7 + 3 * (x.cap : Int)))) :: raW wv n (r.add 2 (((gs.map (·.1)).length : Int) * (7 + 3 * (x.cap : Int)))) :: []) ∨ (∃ Wv2 cs, v = .bool false ∧ (1 ≤ (r.peek 2) ∧ (r.peek 2) ≤ x.wd - (((gs.map (·.1)).length : Int) * (7 + 3 * (x.cap : Int))) ∧ (chunksF x.cap (r.peek 2) x.after x.min (gs.map (·.2))).length ≠ 0) ∧ cs.map (fun x : Chk × List Cel => (hd x.1, x.2)) = (chunksF x.cap (r.peek 2) x.after x.min (gs.map (·.2))) ∧ N = rowE pK 224 Wv2 (wordsF cs cs.length) :: dbB b Vv Lv Gv Wv2 (⟨x.th, x.cap, x.wd, x.ver, x.chunk, x.mate, x.after, 6, 0, x.min, (r.peek 2), x.xk, x.xv, x.xd, x.repl, x.e⟩ : Db) :: raB ba wv (r.add 2 (((gs.map (·.1)).length : Int) * (7 + 3 * (x.cap : Int)))) :: raW wv n (r.add 2 (((gs.map (·.1)).length : Int) * (7 + 3 * (x.cap : Int)))) :: [])) := by
 refine FnX.enter Tryz.func147 (by kernel_rfl) rfl (n := 267) rfl rfl (fun w df hds how => ?_)
 obtain ⟨hx1, hx2, hx3, hx4, hx5⟩ := hx
 have hat := cellAtD_bd (x.cap : Int) hx1 hx2 (show 0 ≤ (x.cap : Int) ∧ (x.cap : Int) ≤ 16 by omega) hx5
 have hml : (gs.map (·.1)).length = gs.length := List.length_map _
 have hmu := mul_bd (a := ((gs.map (·.1)).length : Int)) (c := (7 + 3 * (x.cap : Int))) (by omega) (by omega)
 have hpk := Rr.peek_mid hw (by decide) 2
 refine W ?_
 refine At.drawK [tt 0, tt 1, tt 2, tt 3, tt 4, tt 5, tt 6, tt 7, tt 8, tt 9, tt 10, tt 11, tt 12, tt 13, tt 14, tt 15, ff 16, tt 17] (by kernel_rfl) (by kernel_rfl) ?_
 refine W ?_
 refine At.callVR rfl rfl rfl (.k rfl (.k rfl (.k rfl (.k rfl .nil)))) (.nil) (fun hg => d_cellAt2 (by omega) (by omega) (by omega) (by omega)) kI ?_
 refine Y ?_
 refine At.drawK [tt 0, tt 1, tt 2, tt 3, tt 4, tt 5, tt 6, tt 7, tt 8, ff 9, tt 10, tt 11] (by kernel_rfl) (by kernel_rfl) ?_
 refine W ?_
 refine At.callVR rfl rfl rfl (.k rfl .nil) (.nil) (fun hg => r_Size (by omega)) kI ?_
 refine W ?_
 refine cM rfl rfl rfl (.k rfl (.kc (.k rfl .nil))) rfl (.n (.skip (.take (.take .nil)))) .nil (r_Add (r := r) (i := 2) (x := (((gs.map (·.1)).length : Int) * (7 + 3 * (x.cap : Int)))) hn hN hf (by omega)) keysRa .nil ⟨.all, ?_⟩
 refine W ?_
 refine At.st1 rfl rfl sz_3 (.t rfl) (.t rfl) rfl rfl (.n U0) ⟨.all, ?_⟩
 refine W ?_
 refine At.drawK [tt 0, tt 1, tt 2, tt 3, tt 4, tt 5, tt 6, tt 7, tt 8, tt 9, tt 10, tt 11, tt 12, tt 13, tt 14, tt 15, tt 16, tt 17, tt 18, tt 19, ff 20, tt 21] (by kernel_rfl) (by kernel_rfl) ?_
 refine W ?_
 refine At.callRC rfl rfl rfl (.k rfl (.k rfl (.k rfl (.k rfl (.k rfl .nil))))) (Rds.ofSeg (Eo := 0) (E := 0) (wS M3) (segAll (E := 43) sl)) (c_rChunks (gs := asN gs) (cap := x.cap) (by rw [asN_len]; omega) (by omega) (by omega) (by omega)) (fun vc cs hcs => ⟨Cl.keptApp, ?_⟩); rw [asN_snd] at hcs; have hcl := csLen hcs; have hcl2 := chunksF_le x.cap (r.peek 2) x.after x.min (gs.map (·.2)); have hgl : (gs.map (·.2)).length = gs.length := List.length_map _
 refine sC rfl Cl.keptApp (R.assign (.t rfl)) ?_
 refine W ?_
 refine At.drawK [tt 0, tt 1, tt 2, tt 3, tt 4, tt 5, tt 6, tt 7, tt 8, tt 9, tt 10, tt 11, tt 12, tt 13, tt 14, tt 15, tt 16, tt 17, tt 18, tt 19, tt 20, tt 21, tt 22, tt 23] (by kernel_rfl) (by kernel_rfl) ?_
 refine Z ?_
 refine At.cond (.t rfl) (fun c6 => ?_) (fun c6 => ?_)
 ·
  have hc7 : (r.peek 2) < 1 ∨ x.wd - (((gs.map (·.1)).length : Int) * (7 + 3 * (x.cap : Int))) < (r.peek 2) ∨ (chunksF x.cap (r.peek 2) x.after x.min (gs.map (·.2))).length = 0 := (by have hcm : (cs.map (fun x : Chk × List Cel => x.1)).length = cs.length := List.length_map _; simp [-List.length_map, -List.length_eq_zero_iff] at c6; omega)
  refine W ?_
  refine At.st1 rfl rfl sz_3 (.t rfl) .c rfl rfl (.n U1) ⟨.all, ?_⟩
  refine W ?_
  refine At.st1 rfl rfl sz_3 (.t rfl) .c rfl rfl (.n U1) ⟨.all, ?_⟩
  refine Y ?_
  exact At.finalX (N' := dbB b Vv Lv Gv Wv (⟨x.th, x.cap, x.wd, x.ver, x.chunk, x.mate, x.after, 0, x.i, x.min, (r.peek 2), x.xk, x.xv, x.xd, x.repl, 14⟩ : Db) :: raB ba wv (r.add 2 (((gs.map (·.1)).length : Int) * (7 + 3 * (x.cap : Int)))) :: raW wv n (r.add 2 (((gs.map (·.1)).length : Int) * (7 + 3 * (x.cap : Int)))) :: []) hds how rfl (.t rfl) sl (.inl ⟨rfl, hc7, rfl⟩)
 ·
  have hc7 : 1 ≤ (r.peek 2) ∧ (r.peek 2) ≤ x.wd - (((gs.map (·.1)).length : Int) * (7 + 3 * (x.cap : Int))) ∧ (chunksF x.cap (r.peek 2) x.after x.min (gs.map (·.2))).length ≠ 0 := (by have hcm : (cs.map (fun x : Chk × List Cel => x.1)).length = cs.length := List.length_map _; simp [-List.length_map, -List.length_eq_zero_iff] at c6; omega)
  refine W ?_
  refine At.callRF rfl rfl rfl (.k rfl .nil) (Rds.ofCs (wS M0) (csgAll (E := 239) sl)) (d_Words (by omega) (chunk_bd hcs (by omega) (by omega) (by omega))) (fun Wv2 => ⟨.all, ?_⟩)
  refine W ?_
  refine At.rowOne (v := Wv2) (M0) (fun h1v => ?_)
  refine At.st1 rfl rfl sz_203 (.t rfl) (.t rfl) h1v rfl (.n U2) ⟨.all, ?_⟩
  refine W ?_
  refine At.st1 rfl rfl sz_3 (.t rfl) .c rfl rfl (.n U2) ⟨.all, ?_⟩
  refine W ?_
  refine At.st1 rfl rfl sz_3 (.t rfl) .c rfl rfl (.n U2) ⟨.all, ?_⟩
  refine Y ?_
  exact At.finalX (N' := rowE pK 224 Wv2 (wordsF cs cs.length) :: dbB b Vv Lv Gv Wv2 (⟨x.th, x.cap, x.wd, x.ver, x.chunk, x.mate, x.after, 6, 0, x.min, (r.peek 2), x.xk, x.xv, x.xd, x.repl, x.e⟩ : Db) :: raB ba wv (r.add 2 (((gs.map (·.1)).length : Int) * (7 + 3 * (x.cap : Int)))) :: raW wv n (r.add 2 (((gs.map (·.1)).length : Int) * (7 + 3 * (x.cap : Int)))) :: []) hds how rfl (.t rfl) sl (.inr ⟨Wv2, cs, rfl, hc7, hcs, rfl⟩)
theorem db_Step6 {b ba n : Nat} {wv Vv Lv Gv Wv : Value} {x : Db} {r : Rr} (hx : x.ok) (hl : x.line = 6) (hn : r.w.length = n) (hN : n ≤ 1000000) (hf : r.few) (hw : r.mid 1152921504606846976) {ws : List (Int × Int)} (hi : 0 ≤ x.i ∧ x.i < ws.length) : Fn Tryz.prog 147 [.pointer (some ⟨b, 0, none⟩), .pointer (some ⟨ba, 0, none⟩)] ([]) ([dbB b Vv Lv Gv Wv x, raB ba wv r, raW wv n r, rowE pK 224 Wv ws]) (IsM (.bool false) [dbB b Vv Lv Gv Wv (if (ws.length : Int) ≤ x.i + 1 then (⟨x.th, x.cap, x.wd, x.ver, x.chunk, x.mate, x.after, 7, (x.i + 1), x.min, x.at_, x.xk, x.xv, x.xd, x.repl, x.e⟩ : Db) else (⟨x.th, x.cap, x.wd, x.ver, x.chunk, x.mate, x.after, x.line, (x.i + 1), x.min, x.at_, x.xk, x.xv, x.xd, x.repl, x.e⟩ : Db)), raB ba wv (r.store (gE ws x.i).1 (gE ws x.i).2), raW wv n (r.store (gE ws x.i).1 (gE ws x.i).2), rowE pK 224 Wv ws]) := by
 refine Fn.enter Tryz.func147 (by kernel_rfl) rfl (n := 267) rfl rfl (fun w => ?_)
 obtain ⟨hx1, hx2, hx3, hx4, hx5⟩ := hx
 have hat := cellAtD_bd (x.cap : Int) hx1 hx2 (show 0 ≤ (x.cap : Int) ∧ (x.cap : Int) ≤ 16 by omega) hx5
 refine W ?_
 refine At.drawK [tt 0, tt 1, tt 2, tt 3, tt 4, tt 5, tt 6, tt 7, tt 8, tt 9, tt 10, tt 11, tt 12, tt 13, tt 14, tt 15, ff 16, tt 17] (by kernel_rfl) (by kernel_rfl) ?_
 refine W ?_
 refine At.callVR rfl rfl rfl (.k rfl (.k rfl (.k rfl (.k rfl .nil)))) (.nil) (fun hg => d_cellAt2 (by omega) (by omega) (by omega) (by omega)) kI ?_
 refine Y ?_
 refine At.drawL ([dbB b Vv Lv Gv Wv x, rowE pK 224 Wv ws]) [tt 0, tt 1, tt 2, tt 3, tt 4, tt 5, tt 6, tt 7, tt 8, tt 9, tt 10, tt 11, tt 12, tt 13, tt 14, tt 15, tt 16, tt 17, tt 18, tt 19, tt 20, tt 21, tt 22] [] [ff 23] (keepOf sl) (by kernel_rfl) (by kernel_rfl) ?_
 refine V ?_
 refine At.stage kI ?_
 refine At.stage kz ?_
 refine cM rfl rfl rfl (.k rfl (.k rfl (.k rfl .nil))) rfl (.h (.skip (.take (.take .nil)))) .nil (r_Store (r := r) (i := (gE ws x.i).1) (x := (gE ws x.i).2) hn hN hf) keysRa .nil ⟨kz, ?_⟩
 refine W ?_
 refine At.st1 rfl rfl sz_3 (.t rfl) (.t rfl) rfl rfl (.h U0) ⟨.all, ?_⟩
 refine W ?_
 refine At.drawK [tt 0, tt 1, tt 2, tt 3, tt 4, tt 5, tt 6, tt 7, tt 8, tt 9] (by kernel_rfl) (by kernel_rfl) ?_
 refine Z ?_
 refine At.condD (.t rfl) (fun c7 => ?_) (fun c7 => ?_)
 ·
  refine W ?_
  refine At.st1 rfl rfl sz_3 (.t rfl) .c rfl rfl (.h U0) ⟨.all, ?_⟩
  refine Y ?_
  exact fT rfl (.t rfl) (⟨rfl, rfl, by (rw [if_pos (by simpa using c7)]; rfl)⟩)
 ·
  refine Y ?_
  exact fT rfl (.t rfl) (⟨rfl, rfl, by (rw [if_neg (by simpa using c7)]; rfl)⟩)
end Go.Proofs.YtbolanigdkgbdaaGreat
namespace Go.Proofs.YtbolanigdkgbdaaGreat
open Go Go.RowKit
set_option maxRecDepth 10000
set_option linter.unusedVariables false
set_option maxHeartbeats 1000000
def MB (k : Nat) : Int := 72057594037927936 + 4000 * (k : Int)
def Bd (k : Nat) (v : Int) : Prop := -MB k ≤ v ∧ v ≤ MB k
theorem Bd.up {k : Nat} {v : Int} (h : Bd k v) : Bd (k + 1) v := by unfold Bd MB at *; omega
theorem Bd.le {k j : Nat} {v : Int} (h : Bd k v) (hj : k ≤ j) : Bd j v := by unfold Bd MB at *; omega
theorem Bd.half {k : Nat} {v : Int} (h : Bd k v) : Bd (k + 1) (v / 2) := by unfold Bd MB at *; omega
theorem Bd.or1 {k : Nat} {v : Int} (h : Bd k v) : Bd (k + 1) (orOne v) := by unfold Bd MB orOne at *; split <;> omega
theorem Bd.sm {k : Nat} {v : Int} (h : -72057594037927936 ≤ v ∧ v ≤ 72057594037927936) : Bd k v := by unfold Bd MB; omega
theorem Bd.big {k : Nat} {v : Int} (h : Bd k v) (hk : k ≤ 100000000) : -1000000000000000000 ≤ v ∧ v ≤ 1000000000000000000 := by unfold Bd MB at *; omega
theorem Bd.ver {k : Nat} {v : Int} (h : Bd k v) : Bd (k + 1) (verD v) := by unfold Bd MB verD at *; split <;> omega
theorem Bd.next {k : Nat} {v : Int} {b : Bool} : Bd k (nextD v b) := by unfold Bd MB nextD; split <;> omega
theorem Bd.claim {k : Nat} {s p : Int} : Bd k (claimD s p) := by unfold Bd MB claimD; omega
theorem Bd.data {k : Nat} {s p : Int} : Bd k (dataD s p) := by unfold Bd MB dataD; omega
structure Rr.okk (n k : Nat) (r : Rr) : Prop where
  len : r.w.length = n
  mid : r.mid (MB k)
  cnt : 0 ≤ r.n ∧ r.n ≤ (k : Int)
theorem Rr.okk.pk {n k : Nat} {r : Rr} (h : r.okk n k) (i : Int) : Bd k (r.peek i) := Rr.peek_mid h.mid (by unfold MB; omega) i
theorem Rr.okk.up {n k : Nat} {r : Rr} (h : r.okk n k) : r.okk n (k + 1) := ⟨h.len, Rr.up_mid h.mid (by unfold MB; omega), by have := h.cnt; omega⟩
theorem Rr.okk.le {n k j : Nat} {r : Rr} (h : r.okk n k) (hj : k ≤ j) : r.okk n j := ⟨h.len, Rr.up_mid h.mid (by unfold MB; omega), by have := h.cnt; omega⟩
theorem Rr.okk.few {n k : Nat} {r : Rr} (h : r.okk n k) (hk : k ≤ 100000000) : r.few := by have := h.cnt; unfold Rr.few; omega
theorem Rr.okk.big {n k : Nat} {r : Rr} (h : r.okk n k) (hk : k ≤ 100000000) : r.mid 1152921504606846976 := Rr.up_mid h.mid (by unfold MB; omega)
theorem Rr.okk.load {n k : Nat} {r : Rr} (h : r.okk n k) (i : Int) : (r.load i).okk n (k + 1) := ⟨(Rr.load_len _ _).trans h.len, Rr.load_mid h.up.mid i, by have := h.cnt; show 0 ≤ r.n + 1 ∧ r.n + 1 ≤ _; omega⟩
theorem Rr.okk.store {n k : Nat} {r : Rr} (h : r.okk n k) {i x : Int} (hx : Bd (k + 1) x) : (r.store i x).okk n (k + 1) := ⟨(Rr.store_len _ _ _).trans h.len, Rr.store_mid h.up.mid hx, by have := h.cnt; have e : (r.store i x).n = r.n + 1 := (by show (r.poke i x).n + 1 = _; rw [Rr.poke_n]); rw [e]; omega⟩
theorem Rr.okk.swap {n k : Nat} {r : Rr} (h : r.okk n k) {i y x : Int} (hx : Bd (k + 1) x) : (r.swap i y x).okk n (k + 1) := ⟨(Rr.swap_len _ _ _ _).trans h.len, Rr.swap_mid h.up.mid hx, by
  have := h.cnt
  have e : (r.swap i y x).n = r.n + 1 := by
    show (if r.swaps i y = true then r.poke i x else r).n + 1 = _
    split
    · rw [Rr.poke_n]
    · rfl
  rw [e]; omega⟩
theorem Rr.okk.add {n k : Nat} {r : Rr} (h : r.okk n k) {i x : Int} (hx : -4000 ≤ x ∧ x ≤ 4000) : (r.add i x).okk n (k + 1) := ⟨(Rr.add_len _ _ _).trans h.len, Rr.add_mid h.mid (by unfold MB; omega) (by unfold MB; omega) (by unfold MB; omega), by
  have := h.cnt
  have e : (r.add i x).n = r.n + 1 := by show (r.poke i (r.peek i + x)).n + 1 = _; rw [Rr.poke_n]
  rw [e]; omega⟩
structure Dw.bd (k : Nat) (x : Dw) : Prop where
  b_x : Bd k x.x
  b_cur : Bd k x.cur
  b_n : Bd k x.n
  b_at : Bd k x.at_
  th : 0 ≤ x.th ∧ x.th ≤ 1000
  key : 0 ≤ x.key ∧ x.key ≤ 255
theorem Dw.bd.le {k j : Nat} {x : Dw} (h : x.bd k) (hj : k ≤ j) : x.bd j := ⟨h.b_x.le hj, h.b_cur.le hj, h.b_n.le hj, h.b_at.le hj, h.th, h.key⟩
structure Dc.bd (k : Nat) (x : Dc) : Prop where
  b_v : Bd k x.v
  b_version : Bd k x.version
  tt : 0 ≤ x.t ∧ x.t ≤ 1000
  seq : True
theorem Dc.bd.le {k j : Nat} {x : Dc} (h : x.bd k) (hj : k ≤ j) : x.bd j := ⟨h.b_v.le hj, h.b_version.le hj, h.tt, h.seq⟩
structure Dx.bd (k : Nat) (x : Dx) : Prop where
  b_chunk : Bd k x.chunk
  b_key : Bd k x.key
  b_data : Bd k x.data
  b_g : Bd k x.g
  b_version : Bd k x.version
  cap : 0 ≤ x.cap ∧ x.cap ≤ 16
  ii : -1 ≤ x.i ∧ x.i ≤ 16
theorem Dx.bd.le {k j : Nat} {x : Dx} (h : x.bd k) (hj : k ≤ j) : x.bd j := ⟨h.b_chunk.le hj, h.b_key.le hj, h.b_data.le hj, h.b_g.le hj, h.b_version.le hj, h.cap, h.ii⟩
structure Dd.bd (k : Nat) (x : Dd) : Prop where
  b_chunk : Bd k x.chunk
  b_l : Bd k x.l
  b_n : Bd k x.n
  b_w : Bd k x.w
  b_mate : Bd k x.mate
  b_after : Bd k x.after
theorem Dd.bd.le {k j : Nat} {x : Dd} (h : x.bd k) (hj : k ≤ j) : x.bd j := ⟨h.b_chunk.le hj, h.b_l.le hj, h.b_n.le hj, h.b_w.le hj, h.b_mate.le hj, h.b_after.le hj⟩
structure Dq.bd (k : Nat) (x : Dq) : Prop where
  b_chunk : Bd k x.chunk
  b_mate : Bd k x.mate
  b_g : Bd k x.g
  cap : 1 ≤ x.cap ∧ x.cap ≤ 16
  ii : 0 ≤ x.i ∧ x.i ≤ 32
  li : x.line = 0 ∨ x.i < cellsD x.cap x.mate
theorem Dq.bd.le {k j : Nat} {x : Dq} (h : x.bd k) (hj : k ≤ j) : x.bd j := ⟨h.b_chunk.le hj, h.b_mate.le hj, h.b_g.le hj, h.cap, h.ii, h.li⟩
structure Dp.bd (k : Nat) (x : Dp) : Prop where
  b_chunk : Bd k x.chunk
  b_mate : Bd k x.mate
  b_repl : Bd k x.repl
  b_m : Bd k x.m
  b_cur : Bd k x.cur
  b_w : Bd k x.w
  b_n : Bd k x.n
  b_stuck : Bd k x.stuck
  th : 0 ≤ x.th ∧ x.th ≤ 1000
theorem Dp.bd.le {k j : Nat} {x : Dp} (h : x.bd k) (hj : k ≤ j) : x.bd j := ⟨h.b_chunk.le hj, h.b_mate.le hj, h.b_repl.le hj, h.b_m.le hj, h.b_cur.le hj, h.b_w.le hj, h.b_n.le hj, h.b_stuck.le hj, h.th⟩
theorem Dw.bd.step {n k : Nat} {x : Dw} {r : Rr} (hx : x.bd k) (hr : r.okk n k) : (x.step r).1.bd (k + 1) ∧ (x.step r).2.okk n (k + 1) := by
  unfold Dw.step
  repeat' split
  all_goals refine ⟨⟨?_, ?_, ?_, ?_, ?_, ?_⟩, ?_⟩
  all_goals (try dsimp only [Dw.head, Dw.ends])
  all_goals first | first | exact (hr.pk _).up | exact (hr.pk _).half | exact (hr.pk _).ver | exact hx.b_x.up | exact hx.b_cur.up | exact hx.b_n.up | exact hx.b_at.up | exact hx.b_x.half | exact hx.b_x.or1 | exact hx.b_cur.half | exact hx.b_cur.or1 | exact hx.b_n.half | exact hx.b_n.or1 | exact hx.b_at.half | exact hx.b_at.or1 | exact hx.th | exact hx.key | exact Bd.sm (by have := hx.th; omega) | exact Bd.sm (by omega) | (first | exact hr.load _ | exact hr.store (by first | exact (hr.pk _).up | exact (hr.pk _).half | exact (hr.pk _).ver | exact hx.b_x.up | exact hx.b_cur.up | exact hx.b_n.up | exact hx.b_at.up | exact hx.b_x.half | exact hx.b_x.or1 | exact hx.b_cur.half | exact hx.b_cur.or1 | exact hx.b_n.half | exact hx.b_n.or1 | exact hx.b_at.half | exact hx.b_at.or1 | exact hx.th | exact hx.key | exact Bd.sm (by have := hx.th; omega) | exact Bd.sm (by omega)) | exact hr.swap (by first | exact (hr.pk _).up | exact (hr.pk _).half | exact (hr.pk _).ver | exact hx.b_x.up | exact hx.b_cur.up | exact hx.b_n.up | exact hx.b_at.up | exact hx.b_x.half | exact hx.b_x.or1 | exact hx.b_cur.half | exact hx.b_cur.or1 | exact hx.b_n.half | exact hx.b_n.or1 | exact hx.b_at.half | exact hx.b_at.or1 | exact hx.th | exact hx.key | exact Bd.sm (by have := hx.th; omega) | exact Bd.sm (by omega)) | exact hr.add (by omega) | exact hr.up)
theorem Dc.bd.step {n k : Nat} {x : Dc} {r : Rr} (hx : x.bd k) (hr : r.okk n k) : (x.step r).1.bd (k + 1) ∧ (x.step r).2.okk n (k + 1) := by
  unfold Dc.step
  repeat' split
  all_goals refine ⟨⟨?_, ?_, ?_, ?_⟩, ?_⟩
  all_goals (try dsimp only)
  all_goals first | first | exact (hr.pk _).up | exact (hr.pk _).half | exact (hr.pk _).ver | exact hx.b_v.up | exact hx.b_version.up | exact hx.b_v.half | exact hx.b_v.or1 | exact hx.b_version.half | exact hx.b_version.or1 | exact hx.tt | exact hx.seq | exact Bd.sm (by omega) | exact Bd.sm (by omega) | exact Bd.claim | exact trivial | (first | exact hr.load _ | exact hr.store (by first | exact (hr.pk _).up | exact (hr.pk _).half | exact (hr.pk _).ver | exact hx.b_v.up | exact hx.b_version.up | exact hx.b_v.half | exact hx.b_v.or1 | exact hx.b_version.half | exact hx.b_version.or1 | exact hx.tt | exact hx.seq | exact Bd.sm (by omega) | exact Bd.sm (by omega) | exact Bd.claim | exact trivial) | exact hr.swap (by first | exact (hr.pk _).up | exact (hr.pk _).half | exact (hr.pk _).ver | exact hx.b_v.up | exact hx.b_version.up | exact hx.b_v.half | exact hx.b_v.or1 | exact hx.b_version.half | exact hx.b_version.or1 | exact hx.tt | exact hx.seq | exact Bd.sm (by omega) | exact Bd.sm (by omega) | exact Bd.claim | exact trivial) | exact hr.add (by omega) | exact hr.up)
theorem Dx.bd.step {n k : Nat} {x : Dx} {r : Rr} (hx : x.bd k) (hr : r.okk n k) : (x.step r).1.bd (k + 1) ∧ (x.step r).2.okk n (k + 1) := by
  unfold Dx.step
  repeat' split
  all_goals refine ⟨⟨?_, ?_, ?_, ?_, ?_, ?_, ?_⟩, ?_⟩
  all_goals (try dsimp only)
  all_goals first | first | exact (hr.pk _).up | exact (hr.pk _).half | exact (hr.pk _).ver | exact hx.b_chunk.up | exact hx.b_key.up | exact hx.b_data.up | exact hx.b_g.up | exact hx.b_version.up | exact hx.b_chunk.half | exact hx.b_chunk.or1 | exact hx.b_key.half | exact hx.b_key.or1 | exact hx.b_data.half | exact hx.b_data.or1 | exact hx.b_g.half | exact hx.b_g.or1 | exact hx.b_version.half | exact hx.b_version.or1 | exact hx.cap | exact hx.ii | exact Bd.sm (by omega) | exact Bd.sm (by omega) | (have := hx.cap; have := hx.ii; omega) | (first | exact hr.load _ | exact hr.store (by first | exact (hr.pk _).up | exact (hr.pk _).half | exact (hr.pk _).ver | exact hx.b_chunk.up | exact hx.b_key.up | exact hx.b_data.up | exact hx.b_g.up | exact hx.b_version.up | exact hx.b_chunk.half | exact hx.b_chunk.or1 | exact hx.b_key.half | exact hx.b_key.or1 | exact hx.b_data.half | exact hx.b_data.or1 | exact hx.b_g.half | exact hx.b_g.or1 | exact hx.b_version.half | exact hx.b_version.or1 | exact hx.cap | exact hx.ii | exact Bd.sm (by omega) | exact Bd.sm (by omega) | (have := hx.cap; have := hx.ii; omega)) | exact hr.swap (by first | exact (hr.pk _).up | exact (hr.pk _).half | exact (hr.pk _).ver | exact hx.b_chunk.up | exact hx.b_key.up | exact hx.b_data.up | exact hx.b_g.up | exact hx.b_version.up | exact hx.b_chunk.half | exact hx.b_chunk.or1 | exact hx.b_key.half | exact hx.b_key.or1 | exact hx.b_data.half | exact hx.b_data.or1 | exact hx.b_g.half | exact hx.b_g.or1 | exact hx.b_version.half | exact hx.b_version.or1 | exact hx.cap | exact hx.ii | exact Bd.sm (by omega) | exact Bd.sm (by omega) | (have := hx.cap; have := hx.ii; omega)) | exact hr.add (by omega) | exact hr.up)
theorem cellsD_le {c m : Int} (h : 1 ≤ c ∧ c ≤ 16) : 1 ≤ cellsD c m ∧ cellsD c m ≤ 32 := by unfold cellsD; split <;> omega
theorem Dd.bd.more {n k : Nat} {x : Dd} {r : Rr} (hx : x.bd k) (hr : r.okk n k) : (x.more r).1.bd (k + 1) ∧ (x.more r).2.okk n (k + 1) := by
  unfold Dd.more
  repeat' split
  all_goals refine ⟨⟨?_, ?_, ?_, ?_, ?_, ?_⟩, ?_⟩
  all_goals (try dsimp only [Dd.alon])
  all_goals first | first | exact (hr.pk _).up | exact (hr.pk _).half | exact (hr.pk _).ver | exact hx.b_chunk.up | exact hx.b_l.up | exact hx.b_n.up | exact hx.b_w.up | exact hx.b_mate.up | exact hx.b_after.up | exact hx.b_chunk.half | exact hx.b_chunk.or1 | exact hx.b_l.half | exact hx.b_l.or1 | exact hx.b_n.half | exact hx.b_n.or1 | exact hx.b_w.half | exact hx.b_w.or1 | exact hx.b_mate.half | exact hx.b_mate.or1 | exact hx.b_after.half | exact hx.b_after.or1 | fail | exact Bd.sm (by omega) | exact Bd.sm (by omega) | (first | exact hr.load _ | exact hr.store (by first | exact (hr.pk _).up | exact (hr.pk _).half | exact (hr.pk _).ver | exact hx.b_chunk.up | exact hx.b_l.up | exact hx.b_n.up | exact hx.b_w.up | exact hx.b_mate.up | exact hx.b_after.up | exact hx.b_chunk.half | exact hx.b_chunk.or1 | exact hx.b_l.half | exact hx.b_l.or1 | exact hx.b_n.half | exact hx.b_n.or1 | exact hx.b_w.half | exact hx.b_w.or1 | exact hx.b_mate.half | exact hx.b_mate.or1 | exact hx.b_after.half | exact hx.b_after.or1 | fail | exact Bd.sm (by omega) | exact Bd.sm (by omega)) | exact hr.swap (by first | exact (hr.pk _).up | exact (hr.pk _).half | exact (hr.pk _).ver | exact hx.b_chunk.up | exact hx.b_l.up | exact hx.b_n.up | exact hx.b_w.up | exact hx.b_mate.up | exact hx.b_after.up | exact hx.b_chunk.half | exact hx.b_chunk.or1 | exact hx.b_l.half | exact hx.b_l.or1 | exact hx.b_n.half | exact hx.b_n.or1 | exact hx.b_w.half | exact hx.b_w.or1 | exact hx.b_mate.half | exact hx.b_mate.or1 | exact hx.b_after.half | exact hx.b_after.or1 | fail | exact Bd.sm (by omega) | exact Bd.sm (by omega)) | exact hr.add (by omega) | exact hr.up)
theorem Dd.bd.step {n k : Nat} {x : Dd} {r : Rr} (hx : x.bd k) (hr : r.okk n k) : (x.step r).1.bd (k + 1) ∧ (x.step r).2.okk n (k + 1) := by
  unfold Dd.step
  unfold Dd.eight
  repeat' split
  all_goals first | exact hx.more hr | skip
  all_goals refine ⟨⟨?_, ?_, ?_, ?_, ?_, ?_⟩, ?_⟩
  all_goals (try dsimp only [Dd.alon])
  all_goals first | first | exact (hr.pk _).up | exact (hr.pk _).half | exact (hr.pk _).ver | exact hx.b_chunk.up | exact hx.b_l.up | exact hx.b_n.up | exact hx.b_w.up | exact hx.b_mate.up | exact hx.b_after.up | exact hx.b_chunk.half | exact hx.b_chunk.or1 | exact hx.b_l.half | exact hx.b_l.or1 | exact hx.b_n.half | exact hx.b_n.or1 | exact hx.b_w.half | exact hx.b_w.or1 | exact hx.b_mate.half | exact hx.b_mate.or1 | exact hx.b_after.half | exact hx.b_after.or1 | fail | exact Bd.sm (by omega) | exact Bd.sm (by omega) | (first | exact hr.load _ | exact hr.store (by first | exact (hr.pk _).up | exact (hr.pk _).half | exact (hr.pk _).ver | exact hx.b_chunk.up | exact hx.b_l.up | exact hx.b_n.up | exact hx.b_w.up | exact hx.b_mate.up | exact hx.b_after.up | exact hx.b_chunk.half | exact hx.b_chunk.or1 | exact hx.b_l.half | exact hx.b_l.or1 | exact hx.b_n.half | exact hx.b_n.or1 | exact hx.b_w.half | exact hx.b_w.or1 | exact hx.b_mate.half | exact hx.b_mate.or1 | exact hx.b_after.half | exact hx.b_after.or1 | fail | exact Bd.sm (by omega) | exact Bd.sm (by omega)) | exact hr.swap (by first | exact (hr.pk _).up | exact (hr.pk _).half | exact (hr.pk _).ver | exact hx.b_chunk.up | exact hx.b_l.up | exact hx.b_n.up | exact hx.b_w.up | exact hx.b_mate.up | exact hx.b_after.up | exact hx.b_chunk.half | exact hx.b_chunk.or1 | exact hx.b_l.half | exact hx.b_l.or1 | exact hx.b_n.half | exact hx.b_n.or1 | exact hx.b_w.half | exact hx.b_w.or1 | exact hx.b_mate.half | exact hx.b_mate.or1 | exact hx.b_after.half | exact hx.b_after.or1 | fail | exact Bd.sm (by omega) | exact Bd.sm (by omega)) | exact hr.add (by omega) | exact hr.up)
theorem Dq.bd.step {n k : Nat} {x : Dq} {r : Rr} (hx : x.bd k) (hr : r.okk n k) : (x.step r).1.bd (k + 1) ∧ (x.step r).2.okk n (k + 1) := by
  unfold Dq.step
  repeat' split
  all_goals refine ⟨⟨?_, ?_, ?_, ?_, ?_, ?_⟩, ?_⟩
  all_goals (try dsimp only)
  all_goals first | first | exact (hr.pk _).up | exact (hr.pk _).half | exact (hr.pk _).ver | exact hx.b_chunk.up | exact hx.b_mate.up | exact hx.b_g.up | exact hx.b_chunk.half | exact hx.b_chunk.or1 | exact hx.b_mate.half | exact hx.b_mate.or1 | exact hx.b_g.half | exact hx.b_g.or1 | exact hx.cap | exact hx.ii | exact hx.li | exact Bd.sm (by omega) | exact Bd.sm (by omega) | (have h1 := hx.ii; have h2 := hx.li; have h3 := cellsD_le (m := x.mate) hx.cap; omega) | (first | exact hr.load _ | exact hr.store (by first | exact (hr.pk _).up | exact (hr.pk _).half | exact (hr.pk _).ver | exact hx.b_chunk.up | exact hx.b_mate.up | exact hx.b_g.up | exact hx.b_chunk.half | exact hx.b_chunk.or1 | exact hx.b_mate.half | exact hx.b_mate.or1 | exact hx.b_g.half | exact hx.b_g.or1 | exact hx.cap | exact hx.ii | exact hx.li | exact Bd.sm (by omega) | exact Bd.sm (by omega) | (have h1 := hx.ii; have h2 := hx.li; have h3 := cellsD_le (m := x.mate) hx.cap; omega)) | exact hr.swap (by first | exact (hr.pk _).up | exact (hr.pk _).half | exact (hr.pk _).ver | exact hx.b_chunk.up | exact hx.b_mate.up | exact hx.b_g.up | exact hx.b_chunk.half | exact hx.b_chunk.or1 | exact hx.b_mate.half | exact hx.b_mate.or1 | exact hx.b_g.half | exact hx.b_g.or1 | exact hx.cap | exact hx.ii | exact hx.li | exact Bd.sm (by omega) | exact Bd.sm (by omega) | (have h1 := hx.ii; have h2 := hx.li; have h3 := cellsD_le (m := x.mate) hx.cap; omega)) | exact hr.add (by omega) | exact hr.up)
theorem Dp.bd.step {n k : Nat} {x : Dp} {r : Rr} (hx : x.bd k) (hr : r.okk n k) : (x.step r).1.bd (k + 1) ∧ (x.step r).2.okk n (k + 1) := by
  unfold Dp.step
  repeat' split
  all_goals refine ⟨⟨?_, ?_, ?_, ?_, ?_, ?_, ?_, ?_, ?_⟩, ?_⟩
  all_goals (try dsimp only [Dp.head])
  all_goals first | first | exact (hr.pk _).up | exact (hr.pk _).half | exact (hr.pk _).ver | exact hx.b_chunk.up | exact hx.b_mate.up | exact hx.b_repl.up | exact hx.b_m.up | exact hx.b_cur.up | exact hx.b_w.up | exact hx.b_n.up | exact hx.b_stuck.up | exact hx.b_chunk.half | exact hx.b_chunk.or1 | exact hx.b_mate.half | exact hx.b_mate.or1 | exact hx.b_repl.half | exact hx.b_repl.or1 | exact hx.b_m.half | exact hx.b_m.or1 | exact hx.b_cur.half | exact hx.b_cur.or1 | exact hx.b_w.half | exact hx.b_w.or1 | exact hx.b_n.half | exact hx.b_n.or1 | exact hx.b_stuck.half | exact hx.b_stuck.or1 | exact hx.th | exact Bd.sm (by have := hx.th; omega) | exact Bd.sm (by omega) | exact Bd.next | (first | exact hr.load _ | exact hr.store (by first | exact (hr.pk _).up | exact (hr.pk _).half | exact (hr.pk _).ver | exact hx.b_chunk.up | exact hx.b_mate.up | exact hx.b_repl.up | exact hx.b_m.up | exact hx.b_cur.up | exact hx.b_w.up | exact hx.b_n.up | exact hx.b_stuck.up | exact hx.b_chunk.half | exact hx.b_chunk.or1 | exact hx.b_mate.half | exact hx.b_mate.or1 | exact hx.b_repl.half | exact hx.b_repl.or1 | exact hx.b_m.half | exact hx.b_m.or1 | exact hx.b_cur.half | exact hx.b_cur.or1 | exact hx.b_w.half | exact hx.b_w.or1 | exact hx.b_n.half | exact hx.b_n.or1 | exact hx.b_stuck.half | exact hx.b_stuck.or1 | exact hx.th | exact Bd.sm (by have := hx.th; omega) | exact Bd.sm (by omega) | exact Bd.next) | exact hr.swap (by first | exact (hr.pk _).up | exact (hr.pk _).half | exact (hr.pk _).ver | exact hx.b_chunk.up | exact hx.b_mate.up | exact hx.b_repl.up | exact hx.b_m.up | exact hx.b_cur.up | exact hx.b_w.up | exact hx.b_n.up | exact hx.b_stuck.up | exact hx.b_chunk.half | exact hx.b_chunk.or1 | exact hx.b_mate.half | exact hx.b_mate.or1 | exact hx.b_repl.half | exact hx.b_repl.or1 | exact hx.b_m.half | exact hx.b_m.or1 | exact hx.b_cur.half | exact hx.b_cur.or1 | exact hx.b_w.half | exact hx.b_w.or1 | exact hx.b_n.half | exact hx.b_n.or1 | exact hx.b_stuck.half | exact hx.b_stuck.or1 | exact hx.th | exact Bd.sm (by have := hx.th; omega) | exact Bd.sm (by omega) | exact Bd.next) | exact hr.add (by omega) | exact hr.up)
end Go.Proofs.YtbolanigdkgbdaaGreat
namespace Go.Proofs.YtbolanigdkgbdaaGreat
open Go Go.RowKit
set_option linter.unusedVariables false
set_option maxHeartbeats 1000000
theorem putD_le (l : List Itm) (y : Itm) : (putD l y).length ≤ l.length + 1 := by
  unfold putD
  split
  · simp
  · simp only [List.length_append, List.length_take, List.length_drop, List.length_cons, List.length_nil]; omega
theorem metD_le (l : List Int) (v : Int) : (metD l v).length ≤ l.length + 1 := by
  unfold metD
  split
  · simp only [List.length_append, List.length_take, List.length_drop, List.length_cons, List.length_nil]; omega
  · omega
structure Dl.bd (k : Nat) (x : Dl) : Prop where
  b_chunk : Bd k x.chunk
  b_s : Bd k x.s
  b_g : Bd k x.g
  cap : 0 ≤ x.cap ∧ x.cap ≤ 16
  ii : 0 ≤ x.i ∧ x.i ≤ 16
  cc : x.count ≤ 16
  li : x.line = 0 ∨ x.line = 1 ∨ x.i < x.count
  l1 : x.line = 1 → x.i = 0
  ll : (x.l.length : Int) ≤ x.i
theorem Dl.bd.le {k j : Nat} {x : Dl} (h : x.bd k) (hj : k ≤ j) : x.bd j := ⟨h.b_chunk.le hj, h.b_s.le hj, h.b_g.le hj, h.cap, h.ii, h.cc, h.li, h.l1, h.ll⟩
theorem Dl.bd.next {k : Nat} {x : Dl} (h1 : Bd k x.chunk) (h2 : Bd k x.s) (h3 : Bd k x.g) (hc : 0 ≤ x.cap ∧ x.cap ≤ 16) (hi : -1 ≤ x.i ∧ (x.i < x.count ∨ x.i = -1) ∧ x.count ≤ 16) (hl : (x.l.length : Int) ≤ x.i + 1) : x.next.bd k := by
  unfold Dl.next
  split <;> refine ⟨h1, h2, h3, hc, ?_, ?_, ?_, ?_, ?_⟩ <;> dsimp only <;> omega
theorem Dl.bd.seven {k : Nat} {x : Dl} (h1 : Bd k x.chunk) (h2 : Bd k x.s) (h3 : Bd k x.g) (hc : 0 ≤ x.cap ∧ x.cap ≤ 16) (hi : 0 ≤ x.i ∧ x.i < x.count ∧ x.count ≤ 16) (hl : (x.l.length : Int) ≤ x.i) : x.seven.bd k := by
  unfold Dl.seven
  split
  · exact Dl.bd.next h1 h2 h3 hc (by (try dsimp only); omega) (by (try dsimp only); omega)
  · refine ⟨h1, h2, h3, hc, ?_, ?_, ?_, ?_, ?_⟩ <;> dsimp only <;> omega
theorem Dl.bd.step {n k : Nat} {x : Dl} {r : Rr} (hx : x.bd k) (hr : r.okk n k) : (x.step r).1.bd (k + 1) ∧ (x.step r).2.okk n (k + 1) := by
  have h1 := hx.b_chunk.up; have h2 := hx.b_s.up; have h3 := hx.b_g.up; have hc := hx.cap; have hi := hx.ii; have hcc := hx.cc; have hli := hx.li; have hl1 := hx.l1; have hll := hx.ll
  unfold Dl.step
  repeat' split
  all_goals refine ⟨?_, ?_⟩
  all_goals first
    | exact hr.load _
    | exact hr.swap (Bd.sm (by omega))
    | exact hr.up
    | exact hx.le (Nat.le_succ k)
    | exact Dl.bd.next h1 h2 h3 hc (by (try dsimp only); omega) (by (try dsimp only); omega)
    | exact Dl.bd.next h1 (hr.pk _).up h3 hc (by (try dsimp only); omega) (by (try dsimp only); omega)
    | exact Dl.bd.next h1 h2 h3 hc (by (try dsimp only); omega) (by (try dsimp only); have := putD_le x.l ⟨x.k, verD x.s, r.peek ((x.chunk + 7 + 3 * x.i) + 2)⟩; omega)
    | exact Dl.bd.seven h1 h2 h3 hc (by (try dsimp only); omega) (by (try dsimp only); omega)
    | exact Dl.bd.seven h1 (hr.pk _).up h3 hc (by (try dsimp only); omega) (by (try dsimp only); omega)
    | (refine ⟨h1, ?_, ?_, hc, ?_, ?_, ?_, ?_, ?_⟩ <;> dsimp only <;> first | exact h2 | exact h3 | exact (hr.pk _).up | omega)
structure Dn.bd (k : Nat) (x : Dn) : Prop where
  b_e : Bd k x.e
  b_v : Bd k x.v
  th : 1 ≤ x.th ∧ x.th ≤ 16
  tt : 0 ≤ x.t ∧ x.t ≤ x.th
  lt : x.line = 0 ∨ x.t < x.th
  ll : (x.l.length : Int) ≤ x.t
theorem Dn.bd.le {k j : Nat} {x : Dn} (h : x.bd k) (hj : k ≤ j) : x.bd j := ⟨h.b_e.le hj, h.b_v.le hj, h.th, h.tt, h.lt, h.ll⟩
theorem Dn.bd.next {k : Nat} {x : Dn} (h1 : Bd k x.e) (h2 : Bd k x.v) (ht : 1 ≤ x.th ∧ x.th ≤ 16) (h3 : 0 ≤ x.t ∧ x.t < x.th) (hl : (x.l.length : Int) ≤ x.t + 1) : x.next.bd k := by
  unfold Dn.next
  split <;> refine ⟨h1, h2, ht, ?_, ?_, ?_⟩ <;> dsimp only <;> omega
theorem Dn.bd.step {n k : Nat} {x : Dn} {r : Rr} (hx : x.bd k) (hr : r.okk n k) : (x.step r).1.bd (k + 1) ∧ (x.step r).2.okk n (k + 1) := by
  have h1 := hx.b_e.up; have h2 := hx.b_v.up; have ht := hx.th; have htt := hx.tt; have hlt := hx.lt; have hll := hx.ll
  unfold Dn.step
  repeat' split
  all_goals refine ⟨?_, ?_⟩
  all_goals first
    | exact hr.load _
    | exact hr.swap Bd.claim
    | exact hr.add (by omega)
    | exact hr.up
    | exact hx.le (Nat.le_succ k)
    | exact Dn.bd.next h1 h2 ht (by (try dsimp only); omega) (by (try dsimp only); omega)
    | exact Dn.bd.next (hr.pk _).up h2 ht (by (try dsimp only); omega) (by (try dsimp only); omega)
    | exact Dn.bd.next (hr.pk _).up h2 ht (by (try dsimp only); omega) (by (try dsimp only); have := metD_le x.l ((r.peek (3 + x.t)) % 16777216 - 2); omega)
    | exact Dn.bd.next h1 h2 ht (by (try dsimp only); omega) (by (try dsimp only); have := metD_le x.l ((r.peek (3 + x.t)) % 16777216 - 2); omega)
    | (refine ⟨?_, ?_, ht, ?_, ?_, ?_⟩ <;> dsimp only <;> first | exact h1 | exact h2 | exact (hr.pk _).up | omega)
theorem insF_mem {out : List Itm} {x y : Itm} (h : y ∈ insF out x) : y = x ∨ y ∈ out := by
  unfold insF at h
  simp only [List.mem_append, List.mem_singleton] at h
  rcases h with (h | h) | h
  · exact .inr (List.mem_of_mem_take h)
  · exact .inl h
  · exact .inr (List.mem_of_mem_drop h)
theorem sortF_mem {l : List Itm} {y : Itm} (h : y ∈ sortF l) : y ∈ l := by
  have : ∀ (l o : List Itm), y ∈ l.foldl insF o → y ∈ o ∨ y ∈ l := by
    intro l
    induction l with
    | nil => intro o h; exact .inl h
    | cons x l ih =>
      intro o h
      rcases ih _ h with h | h
      · rcases insF_mem h with h | h
        · exact .inr (h ▸ .head _)
        · exact .inl h
      · exact .inr (.tail _ h)
  rcases this l [] h with h | h
  · cases h
  · exact h
theorem keepF_mem {s : List Itm} {vs : List Int} {y : Itm} : ∀ {n : Nat}, n ≤ s.length → y ∈ keepF s vs n → y ∈ s
  | 0, _, h => nomatch h
  | n + 1, hn, h => by
    unfold keepF at h
    split at h
    · rcases List.mem_append.1 h with h | h
      · exact keepF_mem (by omega) h
      · rw [List.mem_singleton.1 h]; exact gE_mem' (by omega)
    · exact keepF_mem (by omega) h
theorem grpS_mem {h : Int} {G : List (List Itm)} {own g : List Itm} {y : Itm} (hG : 0 < G.length) (hg : g ∈ grpS h G own) (hy : y ∈ g) : y ∈ own ∨ ∃ g' ∈ G, y ∈ g' := by
  have h1 : ∀ g ∈ openG h G own.length, y ∈ g → ∃ g' ∈ G, y ∈ g' := by
    unfold openG
    split
    · intro g hg hy
      rcases List.mem_append.1 hg with hg | hg
      · exact ⟨g, hg, hy⟩
      · simp at hg; subst hg; cases hy
    · exact fun g hg hy => ⟨g, hg, hy⟩
  have hpos := openG_pos (h := h) (n := own.length) hG
  unfold grpS putG at hg
  rcases List.mem_or_eq_of_mem_set hg with hg | hg
  · exact .inr (h1 g hg hy)
  · subst hg
    rcases List.mem_append.1 hy with hy | hy
    · refine .inr (h1 (lastG (openG h G own.length)) ?_ hy)
      unfold lastG; rw [List.getD_eq_getElem?_getD, List.getElem?_eq_getElem (by omega)]; exact List.getElem_mem _
    · exact .inl hy
theorem runs_mem : ∀ (n : Nat) (l : List Itm), l.length ≤ n → ∀ g ∈ runs l, ∀ y ∈ g, y ∈ l
  | _, [], _, g, hg, _, _ => by rw [runs] at hg; cases hg
  | 0, x :: l, h, _, _, _, _ => by simp at h
  | n + 1, x :: l, h, g, hg, y, hy => by
    rw [runs] at hg
    rcases List.mem_cons.1 hg with rfl | hg
    · rcases List.mem_cons.1 hy with rfl | hy
      · exact .head _
      · exact .tail _ ((List.takeWhile_sublist _).subset hy)
    · have hl := (List.dropWhile_sublist (fun y : Itm => decide (y.key = x.key)) (l := l)).length_le
      exact .tail _ ((List.dropWhile_sublist _).subset (runs_mem n _ (by simp at h; omega) g hg y hy))
theorem runs_le : ∀ (n : Nat) (l : List Itm), l.length ≤ n → (runs l).length ≤ l.length
  | _, [], _ => by rw [runs]; exact Nat.le_refl _
  | 0, x :: l, h => by simp at h
  | n + 1, x :: l, h => by
    have hl := (List.dropWhile_sublist (fun y : Itm => decide (y.key = x.key)) (l := l)).length_le
    have := runs_le n (l.dropWhile fun y => decide (y.key = x.key)) (by simp at h; omega)
    rw [runs]; simp; omega
theorem splitR_mem {h : Int} {l : List Itm} {g : List Itm} {y : Itm} (hg : g ∈ splitR h [[]] l) (hy : y ∈ g) : y ∈ l := by
  have : ∀ (R G : List (List Itm)), 0 < G.length → ∀ g ∈ R.foldl (grpS h) G, y ∈ g → (∃ g' ∈ R, y ∈ g') ∨ ∃ g' ∈ G, y ∈ g' := by
    intro R
    induction R with
    | nil => intro G _ g hg hy; exact .inr ⟨g, hg, hy⟩
    | cons r R ih =>
      intro G hG g hg hy
      rcases ih _ (grpS_pos hG) g hg hy with ⟨g', h1, h2⟩ | ⟨g', h1, h2⟩
      · exact .inl ⟨g', .tail _ h1, h2⟩
      · rcases grpS_mem hG h1 h2 with h3 | h3
        · exact .inl ⟨r, .head _, h3⟩
        · exact .inr h3
  rcases this (runs l) [[]] (by simp) g hg hy with ⟨g', h1, h2⟩ | ⟨g', h1, h2⟩
  · exact runs_mem l.length l (Nat.le_refl _) g' h1 y h2
  · simp at h1; subst h1; cases h2
theorem splitR_le (h : Int) (l : List Itm) : (splitR h [[]] l).length ≤ l.length + 1 ∧ 1 ≤ (splitR h [[]] l).length := by
  have : ∀ (R G : List (List Itm)), (R.foldl (grpS h) G).length ≤ G.length + R.length ∧ G.length ≤ (R.foldl (grpS h) G).length := by
    intro R
    induction R with
    | nil => intro G; simp
    | cons r R ih =>
      intro G
      have h1 := ih (grpS h G r)
      have h2 := grpS_len (h := h) (G := G) (own := r)
      simp only [List.foldl_cons, List.length_cons]; omega
  have h1 := this (runs l) [[]]
  have h2 := runs_le l.length l (Nat.le_refl _)
  unfold splitR
  simp only [List.length_cons, List.length_nil] at h1
  omega
end Go.Proofs.YtbolanigdkgbdaaGreat
namespace Go.Proofs.YtbolanigdkgbdaaGreat
open Go Go.RowKit
set_option linter.unusedVariables false
theorem FnX.mono {P : Program} {f : FuncId} {args : List Value} {S A : Hp} {R R' : Value → Hp → Prop} (h : FnX P f args S A R) (hR : ∀ v N, R v N → R' v N) : FnX P f args S A R' :=
  ⟨h.1, fun w hw => Calls.mono (h.2 w hw) fun e w' ⟨v, N', h1, h2, h3⟩ => ⟨v, N', hR _ _ h1, h2, h3⟩⟩
theorem StO.ow {o1 o2 : List Nat} {w0 w : World} {S N H : Hp} (h : StO o1 w0 w S N H) (ho : ∀ k, k ∈ o1 ↔ k ∈ o2) : StO o2 w0 w S N H :=
  ⟨h.os, h.tape, h.output, h.size, h.has, h.hasS, h.nodup, h.apart, fun e he k hk => (h.fresh e he k hk).imp id (ho k).1, fun b h1 h2 h3 => h.old b h1 h2 fun h4 => h3 ((ho b).1 h4)⟩
theorem FnX.perm {P : Program} {f : FuncId} {args : List Value} {S A A' : Hp} {R : Value → Hp → Prop} (h : FnX P f args S A R) (hp : A.Perm A') : FnX P f args S A' R := by
  have hk : ∀ k, k ∈ keys A ↔ k ∈ keys A' := fun k => (hp.filterMap _).mem_iff
  refine ⟨h.1, fun w hw => ?_⟩
  have h1 : @St ⟨[], keys A⟩ w w S A [] := StO.ow (@St.perm ⟨[], keys A'⟩ _ _ _ _ _ _ hw hp.symm) fun k => (hk k).symm
  exact Calls.mono (h.2 w h1) fun e w' ⟨v, N', h2, h3, h4⟩ => ⟨v, N', h2, h3, StO.ow h4 hk⟩
theorem FnX.ofM {P : Program} {f : FuncId} {args : List Value} {S A B : Hp} {x : Value} (h : Fn P f args S A (IsM x B)) (hk : keys B = keys A) : FnX P f args S A (IsO x B) := by
  refine ⟨h.1, fun w hw => ?_⟩
  have h1 : @St noDf w w S [] A := ⟨rfl, rfl, rfl, Nat.le_refl _, fun e he => hw.has e (by simpa using he), hw.hasS, by have := hw.nodup; rw [List.append_nil] at this; exact this, fun k hk1 => by have := hw.apart k hk1; rw [List.append_nil] at this; exact this, (fun e he => nomatch he), fun b _ _ _ => rfl⟩
  refine Calls.mono (h.2 w h1) fun e w' ⟨v, N', H', h2, h3, h4⟩ => ?_
  obtain ⟨rfl, rfl, rfl⟩ := h2
  refine ⟨_, _, ⟨rfl, rfl⟩, h3, ⟨h4.os, h4.tape, h4.output, h4.size, fun e he => h4.has e (by simpa using he), h4.hasS, by have := h4.nodup; rw [List.nil_append] at this; rw [List.append_nil]; exact this, fun k hk1 => by have := h4.apart k hk1; rw [List.nil_append] at this; rw [List.append_nil]; exact this, fun e he k hke => .inr ?_, fun b h5 _ h6 => h4.old b h5 (by rw [hk]; exact h6) noOwN⟩⟩
  rw [← hk]; exact mem_keys he hke
theorem FnX.frame {P : Program} {f : FuncId} {args : List Value} {S A : Hp} {R : Value → Hp → Prop} (T : Hp) (h : FnX P f args S A R) : FnX P f args S (A ++ T) (fun v N => ∃ B, R v B ∧ N = B ++ T) := by
  refine ⟨h.1, fun w hw => ?_⟩
  have h1 : @St ⟨[], keys A⟩ w w S A [] := StO.mk rfl rfl rfl (Nat.le_refl _) (fun e he => hw.has e (by rw [List.append_nil] at he ⊢; exact List.mem_append_left _ he)) hw.hasS
    (by have := hw.nodup; rw [List.append_nil, keys_append] at this; rw [List.append_nil]; exact (List.nodup_append.1 this).1)
    (fun k hk => by have := hw.apart k hk; rw [List.append_nil, keys_append] at this; rw [List.append_nil]; exact fun h2 => this (List.mem_append_left _ h2))
    (fun e he k hk => .inr (mem_keys he hk)) (fun _ _ _ _ => rfl)
  refine Calls.mono (h.2 w h1) fun e w' ⟨v, B, h2, h3, h4⟩ => ⟨v, B ++ T, ⟨B, h2, rfl⟩, h3, ?_⟩
  exact @St.callX ⟨[], keys (A ++ T)⟩ _ _ _ _ _ _ _ _ _ _ hw (.refl _) h4
theorem FnX.conv {P : Program} {f : FuncId} {args : List Value} {S A : Hp} {R R' : Value → Hp → Prop} (h : FnX P f args S A R) (hR : ∀ v N, R v N → ∃ M N' : Hp, M.Sublist N ∧ M.Perm N' ∧ R' v N') : FnX P f args S A R' :=
  ⟨h.1, fun w hw => Calls.mono (h.2 w hw) fun e w' ⟨v, N, h1, h2, h3⟩ => by
    obtain ⟨M, N', h4, h5, h6⟩ := hR v N h1
    exact ⟨v, N', h6, h2, @St.perm ⟨[], keys A⟩ _ _ _ _ _ _ (StO.ow (@St.forget ⟨[], keys A⟩ _ _ _ _ _ _ h3 h4) fun _ => Iff.rfl) h5⟩⟩
theorem FnX.stepX {P : Program} {f : FuncId} {args : List Value} {A T A' : Hp} {R R' : Value → Hp → Prop} (h : FnX P f args [] A R) (hp : (A ++ T).Perm A') (hR : ∀ v B, R v B → ∃ M N' : Hp, M.Sublist (B ++ T) ∧ M.Perm N' ∧ R' v N') : FnX P f args [] A' R' :=
  ((h.frame T).conv fun v N ⟨B, h1, h2⟩ => by subst h2; exact hR v B h1).perm hp
theorem FnX.stepM {P : Program} {f : FuncId} {args : List Value} {A B T A' N' : Hp} {x : Value} {R' : Value → Hp → Prop} (h : Fn P f args [] A (IsM x B)) (hk : keys B = keys A) (hp : (A ++ T).Perm A') (hq : (B ++ T).Perm N') (hR : R' x N') : FnX P f args [] A' R' :=
  (FnX.ofM h hk).stepX hp fun v C ⟨h1, h2⟩ => by subst h1 h2; exact ⟨_, _, .refl _, hq, hR⟩
theorem perm312 {a b c : Ent} {T : Hp} : ([a, b, c] ++ T).Perm (b :: c :: a :: T) := (List.perm_append_comm (l₁ := [a]) (l₂ := [b, c])).append_right T
end Go.Proofs.YtbolanigdkgbdaaGreat
namespace Go.Proofs.YtbolanigdkgbdaaGreat
open Go Go.RowKit
set_option linter.unusedVariables false
set_option maxHeartbeats 1000000
theorem cellsW_le (a : Int) (l : List Cel) : ∀ k, (cellsW a l k).length ≤ 3 * k
  | 0 => Nat.le_refl _
  | k + 1 => by
    have := cellsW_le a l k
    unfold cellsW cellW
    rw [List.length_append]
    split <;> simp <;> omega
theorem wordsF_le {cs : List (Chk × List Cel)} (h : ∀ x ∈ cs, x.2.length ≤ 100) : ∀ n, n ≤ cs.length → (wordsF cs n).length ≤ 303 * n
  | 0, _ => Nat.le_refl _
  | n + 1, hn => by
    have h1 := wordsF_le h n (by omega)
    have h2 := h (gE cs (n : Int)) (gE_mem' (by omega))
    have h3 := cellsW_le (gE cs (n : Int)).1.a0 (gE cs (n : Int)).2 (gE cs (n : Int)).2.length
    unfold wordsF
    simp only [List.length_append, List.length_cons, List.length_nil]; omega
theorem wordsF_pos {cs : List (Chk × List Cel)} {n : Nat} (h : 0 < n) : 0 < (wordsF cs n).length := by
  obtain ⟨m, rfl⟩ : ∃ m, n = m + 1 := ⟨n - 1, by omega⟩
  unfold wordsF; simp only [List.length_append, List.length_cons]; omega
theorem cellsW_bd {q : Nat} {a : Int} {l : List Cel} (h : ∀ y ∈ l, Bd q y.state ∧ Bd q y.key ∧ Bd q y.data) : ∀ k, k ≤ l.length → ∀ w ∈ cellsW a l k, Bd q w.2
  | 0, _, w, hw => nomatch hw
  | k + 1, hk, w, hw => by
    unfold cellsW at hw
    rcases List.mem_append.1 hw with hw | hw
    · exact cellsW_bd h k (by omega) w hw
    · obtain ⟨h1, h2, h3⟩ := h (gE l (k : Int)) (gE_mem' (by omega))
      unfold cellW at hw
      split at hw
      · cases hw
      · simp only [List.mem_cons, List.not_mem_nil, or_false] at hw
        rcases hw with rfl | rfl | rfl <;> assumption
theorem cellsP_bd {q cap : Nat} {g : List Itm} (h : ∀ y ∈ g, Bd q y.key ∧ Bd q y.data) : ∀ y ∈ cellsP cap g g.length, Bd q y.state ∧ Bd q y.key ∧ Bd q y.data := fun y hy => by
  unfold cellsP at hy
  rcases List.mem_append.1 hy with hy | hy
  · obtain ⟨z, hz, rfl⟩ := List.mem_map.1 hy
    obtain ⟨h1, h2⟩ := h z (List.mem_of_mem_take hz)
    exact ⟨Bd.sm (by show -72057594037927936 ≤ min (max z.ver 0) 16777212 + 3 ∧ min (max z.ver 0) 16777212 + 3 ≤ 72057594037927936; omega), h1, h2⟩
  · rw [(List.mem_replicate.1 hy).2]; exact ⟨Bd.sm (by decide), Bd.sm (by decide), Bd.sm (by decide)⟩
theorem words_bd {q cap : Nat} {at_ after least : Int} {G : List (List Itm)} {cs : List (Chk × List Cel)} (h : cs.map (fun x : Chk × List Cel => (hd x.1, x.2)) = chunksF cap at_ after least G) (hc : cap ≤ 16) (hl : Bd q least) (hG : ∀ g ∈ G, ∀ y ∈ g, Bd q y.key ∧ Bd q y.data) :
    ∀ n, n ≤ cs.length → ∀ w ∈ wordsF cs n, Bd q w.2
  | 0, _, w, hw => nomatch hw
  | n + 1, hn, w, hw => by
    have hx : gE cs (n : Int) ∈ cs := gE_mem' (by omega)
    have hm : (hd (gE cs (n : Int)).1, (gE cs (n : Int)).2) ∈ chunksF cap at_ after least G := by rw [← h]; exact List.mem_map.2 ⟨_, hx, rfl⟩
    unfold wordsF at hw
    rcases List.mem_append.1 hw with hw | hw
    · exact words_bd h hc hl hG n (by omega) w hw
    · unfold chunksF at hm
      split at hm
      · rename_i hGc
        obtain ⟨i, hi, he⟩ := List.mem_map.1 hm
        rw [List.mem_range] at hi
        have hg : gE G (i : Int) ∈ G := gE_mem' (by omega)
        unfold chunkS at he
        have e1 : minG least G i = (gE cs (n : Int)).1.a1 := congrArg (fun z : List Int × List Cel => gE z.1 1) he
        have e2 : ((gE G (i : Int)).length : Int) = (gE cs (n : Int)).1.a2 := congrArg (fun z : List Int × List Cel => gE z.1 2) he
        have e3 : 2 * min (max (if i + 1 = G.length then after else at_ + (i : Int) * (7 + 3 * (cap : Int)) + (7 + 3 * (cap : Int))) 0) 1073741824 = (gE cs (n : Int)).1.a3 := congrArg (fun z : List Int × List Cel => gE z.1 3) he
        have e4 : cellsP cap (gE G (i : Int)) (gE G (i : Int)).length = (gE cs (n : Int)).2 := congrArg (fun z : List Int × List Cel => z.2) he
        rcases List.mem_append.1 hw with hw | hw
        · simp only [List.mem_cons, List.not_mem_nil, or_false] at hw
          rcases hw with rfl | rfl | rfl
          · show Bd q (gE cs (n : Int)).1.a1
            rw [← e1]
            unfold minG
            split
            · exact hl
            · split
              · exact Bd.sm (by decide)
              · rename_i h0
                exact (hG _ hg _ (gE_mem' (j := 0) (by omega))).1
          · show Bd q (gE cs (n : Int)).1.a2
            have := hGc _ hg
            rw [← e2]; exact Bd.sm (by omega)
          · show Bd q (gE cs (n : Int)).1.a3
            rw [← e3]; generalize (if i + 1 = G.length then after else at_ + (i : Int) * (7 + 3 * (cap : Int)) + (7 + 3 * (cap : Int))) = z; exact Bd.sm (by omega)
        · rw [← e4] at hw
          exact cellsW_bd (cellsP_bd (hG _ hg)) _ (Nat.le_refl _) w hw
      · cases hm
theorem perm_lay {a b c d : Ent} {T : Hp} : (a :: b :: c :: d :: T).Perm (c :: d :: b :: a :: T) := by
  have h1 : (a :: b :: c :: d :: T).Perm (c :: d :: a :: b :: T) := (List.perm_append_comm (l₁ := [a, b]) (l₂ := [c, d])).append_right T
  exact h1.trans (((List.Perm.swap b a T).cons d).cons c)
structure Db.bd (k : Nat) (x : Db) : Prop where
  b_chunk : Bd k x.chunk
  b_mate : Bd k x.mate
  b_after : Bd k x.after
  b_min : Bd k x.min
  b_at : Bd k x.at_
  b_xk : Bd k x.xk
  b_repl : Bd k x.repl
  cap : 1 ≤ x.cap ∧ x.cap ≤ 16
  wd : 0 ≤ x.wd ∧ x.wd ≤ 1000000
def itB (k : Nat) (l : List Itm) : Prop := ∀ y ∈ l, Bd k y.key ∧ Bd k y.data
theorem itB.le {k j : Nat} {l : List Itm} (h : itB k l) (hj : k ≤ j) : itB j l := fun y hy => ⟨(h y hy).1.le hj, (h y hy).2.le hj⟩
theorem Db.bd.le {k j : Nat} {x : Db} (h : x.bd k) (hj : k ≤ j) : x.bd j := ⟨h.b_chunk.le hj, h.b_mate.le hj, h.b_after.le hj, h.b_min.le hj, h.b_at.le hj, h.b_xk.le hj, h.b_repl.le hj, h.cap, h.wd⟩
theorem Db.bd.ok {k : Nat} {x : Db} (h : x.bd k) (hk : k ≤ 100000000) (hi : -1 ≤ x.i ∧ x.i ≤ 50000) : x.ok := by
  have h1 := h.b_chunk.big hk; have h2 := h.b_mate.big hk; have h3 := h.b_after.big hk
  exact ⟨by omega, by omega, by omega, h.cap, hi⟩
def BuM (k b : Nat) (N : Hp) : Prop := ∃ (x : Db) (Vv Lv Gv Wv : Value), x.bd k ∧
  ((∃ vs l, N = [dbB b Vv Lv Gv Wv x, rowE zK 3 Vv vs, rowE iK 43 Lv l] ∧ itB k l ∧ (x.line = 1 ∧ x.i = 0 ∧ l = [] ∨ (x.line = 2 ∨ x.line = 3 ∨ x.line = 4) ∧ 0 ≤ x.i ∧ x.i < cellsD (x.cap : Int) x.mate ∧ (l.length : Int) ≤ x.i)) ∨
   (∃ gs, N = dbB b Vv Lv Gv Wv x :: rowE sK 40 Gv (gs.map (·.1)) :: seg iK 43 gs ∧ x.line = 5 ∧ 0 ≤ x.i ∧ x.i ≤ 50 ∧ 1 ≤ gs.length ∧ gs.length ≤ 60 ∧ ∀ g ∈ gs, itB k g.2) ∨
   (∃ ws, N = [dbB b Vv Lv Gv Wv x, rowE pK 224 Wv ws] ∧ x.line = 6 ∧ 0 ≤ x.i ∧ x.i < ws.length ∧ ws.length ≤ 30000 ∧ ∀ w ∈ ws, Bd k w.2) ∨
   (N = [dbB b Vv Lv Gv Wv x] ∧ (x.line = 7 ∨ x.line = 8) ∧ 0 ≤ x.i ∧ x.i ≤ 30000))
def BuR (n k b ba : Nat) (wv : Value) : Value → Hp → Prop := fun v N => ∃ (e : Bool) (r : Rr) (N1 : Hp), v = .bool e ∧ N = raB ba wv r :: raW wv n r :: N1 ∧ r.okk n (k + 1) ∧
  (e = false → BuM (k + 1) b N1) ∧ (e = true → ∃ (x : Db) (Vv Lv Gv Wv : Value), N1 = [dbB b Vv Lv Gv Wv x] ∧ x.bd (k + 1))
theorem bu_Step {n k b ba : Nat} {wv : Value} {r : Rr} {N : Hp} (hN : BuM k b N) (hr : r.okk n k) (hn : n ≤ 1000000) (hk : k ≤ 100000000) :
    FnX Tryz.prog 147 [.pointer (some ⟨b, 0, none⟩), .pointer (some ⟨ba, 0, none⟩)] [] (raB ba wv r :: raW wv n r :: N) (BuR n k b ba wv) := by
  have hf := hr.few hk; have hw := hr.big hk; have hl0 := hr.len
  obtain ⟨x, Vv, Lv, Gv, Wv, hx, h⟩ := hN
  have hc := hx.cap
  have h00 : Bd (k + 1) 0 := Bd.sm (by decide)
  have hcl := cellsD_le (c := (x.cap : Int)) (m := x.mate) (by omega)
  have hx1 := hx.le (Nat.le_succ k)
  rcases h with ⟨vs, l, rfl, hit, h⟩ | ⟨gs, rfl, hl, hi0, hi1, hg1, hg2, hgb⟩ | ⟨ws, rfl, hl, hi0, hi1, hwl, hwb⟩ | ⟨rfl, hl, hi0, hi1⟩
  · have hit1 := hit.le (Nat.le_succ k)
    rcases h with ⟨hl, hi, hl'⟩ | ⟨hl, hi0, hi1, hll⟩
    · subst hl'
      exact FnX.stepM (db_Step1 (hx.ok hk (by omega)) hl hl0 hn hf hw) rfl perm312 perm312 ⟨false, _, _, rfl, rfl, hr.load _, fun _ => ⟨{ x with min := r.peek x.chunk, i := -1 + 1, line := 2 }, Vv, Lv, Gv, Wv, ⟨hx1.b_chunk, hx1.b_mate, hx1.b_after, (hr.pk _).up, hx1.b_at, hx1.b_xk, hx1.b_repl, hx.cap, hx.wd⟩, .inl ⟨vs, [], rfl, hit1, .inr ⟨.inl rfl, by show (0 : Int) ≤ -1 + 1; decide, by show (-1 : Int) + 1 < cellsD (x.cap : Int) x.mate; omega, by show (0 : Int) ≤ -1 + 1; decide⟩⟩⟩, fun h => nomatch h⟩
    · have hi2 : x.i ≤ 31 := by omega
      have hok := hx.ok hk (by omega)
      rcases hl with hl | hl | hl
      · by_cases hs : r.peek (cellAtD (x.cap : Int) x.chunk x.mate x.i) < 3
        · by_cases hcc : x.i + 1 < cellsD (x.cap : Int) x.mate
          · exact FnX.stepM (db_Step2a hok hl hl0 hn hf hw hs hcc) rfl perm312 perm312 ⟨false, _, _, rfl, rfl, hr.load _, fun _ => ⟨{ x with xk := 0, xv := verD (r.peek (cellAtD (x.cap : Int) x.chunk x.mate x.i)), xd := 0, i := x.i + 1, line := 2 }, Vv, Lv, Gv, Wv, ⟨hx1.b_chunk, hx1.b_mate, hx1.b_after, hx1.b_min, hx1.b_at, h00, hx1.b_repl, hx.cap, hx.wd⟩, .inl ⟨vs, l, rfl, hit1, .inr ⟨.inl rfl, by show 0 ≤ x.i + 1; omega, hcc, by show (l.length : Int) ≤ x.i + 1; omega⟩⟩⟩, fun h => nomatch h⟩
          · refine FnX.stepX (T := []) (db_Step2b (wv := wv) (ba := ba) (Vv := Vv) (Lv := Lv) (Gv := Gv) (Wv := Wv) (l := l) (vs := vs) (by omega) hok hl hl0 hn hf hw hs hcc) ?_ ?_
            · rw [List.append_nil]; exact perm312 (T := [_, _])
            · rintro v B ⟨Lv2, Gv2, gs, rfl, hgs, rfl⟩
              have hsp := splitR_le (max 2 (min (x.cap : Int) 16) / 2) (keepF (sortF l) vs (sortF l).length)
              have hkl := keepF_le (sortF l) vs (sortF l).length
              have hsl := sortF_length l
              have hgl := congrArg List.length hgs
              rw [List.length_map] at hgl
              refine ⟨_, raB ba wv _ :: raW wv n _ :: (dbB b Vv Lv2 Gv2 Wv _ :: _ :: _), List.sublist_append_left _ _, perm_lay, false, _, _, rfl, rfl, hr.load _, fun _ => ⟨_, Vv, Lv2, Gv2, Wv, ?_, .inr (.inl ⟨gs, rfl, rfl, by show 0 ≤ x.i + 1; omega, by show x.i + 1 ≤ 50; omega, by omega, by omega, ?_⟩)⟩, fun h => nomatch h⟩
              · exact ⟨hx1.b_chunk, hx1.b_mate, hx1.b_after, hx1.b_min, hx1.b_at, h00, hx1.b_repl, hx.cap, hx.wd⟩
              · intro g hg y hy
                exact hit1 y (sortF_mem (keepF_mem (Nat.le_refl _) (splitR_mem (by rw [← hgs]; exact List.mem_map.2 ⟨g, hg, rfl⟩) hy)))
        · exact FnX.stepM (db_Step2 hok hl hl0 hn hf hw hs) rfl perm312 perm312 ⟨false, _, _, rfl, rfl, hr.load _, fun _ => ⟨{ x with xk := 0, xv := verD (r.peek (cellAtD (x.cap : Int) x.chunk x.mate x.i)), xd := 0, line := 3 }, Vv, Lv, Gv, Wv, ⟨hx1.b_chunk, hx1.b_mate, hx1.b_after, hx1.b_min, hx1.b_at, h00, hx1.b_repl, hx.cap, hx.wd⟩, .inl ⟨vs, l, rfl, hit1, .inr ⟨.inr (.inl rfl), hi0, hi1, hll⟩⟩⟩, fun h => nomatch h⟩
      · exact FnX.stepM (db_Step3 hok hl hl0 hn hf hw) rfl perm312 perm312 ⟨false, _, _, rfl, rfl, hr.load _, fun _ => ⟨{ x with xk := r.peek (cellAtD (x.cap : Int) x.chunk x.mate x.i + 1), line := 4 }, Vv, Lv, Gv, Wv, ⟨hx1.b_chunk, hx1.b_mate, hx1.b_after, hx1.b_min, hx1.b_at, (hr.pk _).up, hx1.b_repl, hx.cap, hx.wd⟩, .inl ⟨vs, l, rfl, hit1, .inr ⟨.inr (.inr rfl), hi0, hi1, hll⟩⟩⟩, fun h => nomatch h⟩
      · have hit2 : itB (k + 1) (l ++ [(⟨x.xk, x.xv, r.peek (cellAtD (x.cap : Int) x.chunk x.mate x.i + 2)⟩ : Itm)]) := fun y hy => by
          rcases List.mem_append.1 hy with hy | hy
          · exact hit1 y hy
          · rw [List.mem_singleton.1 hy]; exact ⟨hx1.b_xk, (hr.pk _).up⟩
        by_cases hcc : x.i + 1 < cellsD (x.cap : Int) x.mate
        · refine FnX.stepX (T := []) (db_Step4a (wv := wv) (ba := ba) (Vv := Vv) (Lv := Lv) (Gv := Gv) (Wv := Wv) (l := l) (vs := vs) (by omega) hok hl hl0 hn hf hw hcc) ?_ ?_
          · rw [List.append_nil]; exact perm312 (T := [_, _])
          · rintro v B ⟨Lv2, rfl, rfl⟩
            refine ⟨_, _, List.sublist_append_left _ _, perm312 (T := [_, _]), false, _, _, rfl, rfl, hr.load _, fun _ => ⟨_, Vv, Lv2, Gv, Wv, ?_, .inl ⟨vs, _, rfl, hit2, .inr ⟨.inl rfl, by show 0 ≤ x.i + 1; omega, hcc, by show ((l ++ [_]).length : Int) ≤ x.i + 1; rw [List.length_append, List.length_singleton]; omega⟩⟩⟩, fun h => nomatch h⟩
            exact ⟨hx1.b_chunk, hx1.b_mate, hx1.b_after, hx1.b_min, hx1.b_at, hx1.b_xk, hx1.b_repl, hx.cap, hx.wd⟩
        · refine FnX.stepX (T := []) (db_Step4b (wv := wv) (ba := ba) (Vv := Vv) (Lv := Lv) (Gv := Gv) (Wv := Wv) (l := l) (vs := vs) (by omega) hok hl hl0 hn hf hw hcc) ?_ ?_
          · rw [List.append_nil]; exact perm312 (T := [_, _])
          · rintro v B ⟨Lv2, Gv2, gs, rfl, hgs, rfl⟩
            have hsp := splitR_le (max 2 (min (x.cap : Int) 16) / 2) (keepF (sortF (l ++ [(⟨x.xk, x.xv, r.peek (cellAtD (x.cap : Int) x.chunk x.mate x.i + 2)⟩ : Itm)])) vs (sortF (l ++ [(⟨x.xk, x.xv, r.peek (cellAtD (x.cap : Int) x.chunk x.mate x.i + 2)⟩ : Itm)])).length)
            have hkl := keepF_le (sortF (l ++ [(⟨x.xk, x.xv, r.peek (cellAtD (x.cap : Int) x.chunk x.mate x.i + 2)⟩ : Itm)])) vs (sortF (l ++ [(⟨x.xk, x.xv, r.peek (cellAtD (x.cap : Int) x.chunk x.mate x.i + 2)⟩ : Itm)])).length
            have hsl := sortF_length (l ++ [(⟨x.xk, x.xv, r.peek (cellAtD (x.cap : Int) x.chunk x.mate x.i + 2)⟩ : Itm)])
            have hgl := congrArg List.length hgs
            rw [List.length_map] at hgl
            rw [List.length_append, List.length_singleton] at hsl
            refine ⟨_, raB ba wv _ :: raW wv n _ :: (dbB b Vv Lv2 Gv2 Wv _ :: _ :: _), List.sublist_append_left _ _, perm_lay, false, _, _, rfl, rfl, hr.load _, fun _ => ⟨_, Vv, Lv2, Gv2, Wv, ?_, .inr (.inl ⟨gs, rfl, rfl, by show 0 ≤ x.i + 1; omega, by show x.i + 1 ≤ 50; omega, by omega, by omega, ?_⟩)⟩, fun h => nomatch h⟩
            · exact ⟨hx1.b_chunk, hx1.b_mate, hx1.b_after, hx1.b_min, hx1.b_at, hx1.b_xk, hx1.b_repl, hx.cap, hx.wd⟩
            · intro g hg y hy
              exact hit2 y (sortF_mem (keepF_mem (Nat.le_refl _) (splitR_mem (by rw [← hgs]; exact List.mem_map.2 ⟨g, hg, rfl⟩) hy)))
  · have hok := hx.ok hk (by omega)
    have hwd := hx.wd
    refine FnX.stepX (T := []) (db_Step5 (wv := wv) (ba := ba) (Vv := Vv) (Lv := Lv) (Gv := Gv) (Wv := Wv) hok hl hl0 hn hf hw hg2 hx.wd) ?_ ?_
    · rw [List.append_nil]; exact perm312 (T := _ :: _)
    · have hmu := mul_bd (a := ((gs.map (·.1)).length : Int)) (c := (7 + 3 * (x.cap : Int))) (by rw [List.length_map]; omega) (by omega)
      rintro v B (⟨rfl, _, rfl⟩ | ⟨Wv2, cs, rfl, hc7, hcs, rfl⟩)
      · exact ⟨_, _, List.sublist_append_left _ _, perm312 (T := []), true, _, _, rfl, rfl, hr.add (by omega), (fun h => nomatch h), fun _ => ⟨_, Vv, Lv, Gv, Wv, rfl, hx1.b_chunk, hx1.b_mate, hx1.b_after, hx1.b_min, (hr.pk _).up, hx1.b_xk, hx1.b_repl, hx.cap, hx.wd⟩⟩
      · have hcl := csLen hcs
        have hcl2 := chunksF_le x.cap (r.peek 2) x.after x.min (gs.map (·.2))
        have hgl : (gs.map (·.2)).length = gs.length := List.length_map _
        have hcb := chunk_bd hcs (by omega) hx.cap (by omega)
        have hwl := wordsF_le (fun x hx => (hcb x hx).2.2) cs.length (Nat.le_refl _)
        have hwp := wordsF_pos (cs := cs) (n := cs.length) (by omega)
        refine ⟨_, raB ba wv _ :: raW wv n _ :: [dbB b Vv Lv Gv Wv2 _, _], List.sublist_append_left _ _, perm_lay (T := []), false, _, _, rfl, rfl, hr.add (by omega), fun _ => ⟨_, Vv, Lv, Gv, Wv2, ?_, .inr (.inr (.inl ⟨_, rfl, rfl, by show (0 : Int) ≤ 0; decide, by show (0 : Int) < _; omega, by omega, ?_⟩))⟩, fun h => nomatch h⟩
        · exact ⟨hx1.b_chunk, hx1.b_mate, hx1.b_after, hx1.b_min, (hr.pk _).up, hx1.b_xk, hx1.b_repl, hx.cap, hx.wd⟩
        · exact words_bd hcs hx.cap.2 hx1.b_min (fun g hg y hy => by
            obtain ⟨g', h1, rfl⟩ := List.mem_map.1 hg
            have := hgb g' h1 y hy
            exact ⟨this.1.up, this.2.up⟩) cs.length (Nat.le_refl _)
  · have hok := hx.ok hk (by omega)
    have hwd := hx.wd
    have hwi : gE ws x.i ∈ ws := gE_mem' (by omega)
    refine (FnX.ofM (db_Step6 (wv := wv) (ba := ba) (Vv := Vv) (Lv := Lv) (Gv := Gv) (Wv := Wv) hok hl hl0 hn hf hw ⟨hi0, hi1⟩) rfl).stepX (T := []) ?_ ?_
    · rw [List.append_nil]; exact perm312 (T := [_])
    · rintro v B ⟨rfl, rfl⟩
      by_cases h : (ws.length : Int) ≤ x.i + 1
      · rw [if_pos h]
        refine ⟨_, _, (List.sublist_append_left [_, _, _] [_]).trans (List.sublist_append_left _ _), perm312 (T := []), false, _, _, rfl, rfl, hr.store (hwb _ hwi).up, fun _ => ⟨_, Vv, Lv, Gv, Wv, ?_, .inr (.inr (.inr ⟨rfl, .inl rfl, by show 0 ≤ x.i + 1; omega, by show x.i + 1 ≤ 30000; omega⟩))⟩, fun h => nomatch h⟩
        exact ⟨hx1.b_chunk, hx1.b_mate, hx1.b_after, hx1.b_min, hx1.b_at, hx1.b_xk, hx1.b_repl, hx.cap, hx.wd⟩
      · rw [if_neg h]
        refine ⟨_, _, List.sublist_append_left _ _, perm312 (T := [_]), false, _, _, rfl, rfl, hr.store (hwb _ hwi).up, fun _ => ⟨_, Vv, Lv, Gv, Wv, ?_, .inr (.inr (.inl ⟨ws, rfl, hl, by show 0 ≤ x.i + 1; omega, by show x.i + 1 < _; omega, hwl, fun w hw => (hwb w hw).up⟩))⟩, fun h => nomatch h⟩
        exact ⟨hx1.b_chunk, hx1.b_mate, hx1.b_after, hx1.b_min, hx1.b_at, hx1.b_xk, hx1.b_repl, hx.cap, hx.wd⟩
  · have hok := hx.ok hk (by omega)
    have hwd := hx.wd
    rcases hl with hl | hl
    · exact FnX.stepM (T := []) (db_Step7 hok hl hl0 hn hf hw) rfl perm312 perm312 ⟨false, _, _, rfl, rfl, hr.swap hx1.b_at, fun _ => ⟨{ x with line := 8 }, Vv, Lv, Gv, Wv, ⟨hx1.b_chunk, hx1.b_mate, hx1.b_after, hx1.b_min, hx1.b_at, hx1.b_xk, hx1.b_repl, hx.cap, hx.wd⟩, .inr (.inr (.inr ⟨rfl, .inr rfl, hi0, hi1⟩))⟩, fun h => nomatch h⟩
    · exact FnX.stepM (T := []) (db_Step8 hok hl hl0 hn hf hw) rfl perm312 perm312 ⟨true, _, _, rfl, rfl, hr.load _, (fun h => nomatch h), fun _ => ⟨{ x with repl := r.peek (x.chunk + 5), line := 0 }, Vv, Lv, Gv, Wv, rfl, hx1.b_chunk, hx1.b_mate, hx1.b_after, hx1.b_min, hx1.b_at, hx1.b_xk, (hr.pk _).up, hx.cap, hx.wd⟩⟩
end Go.Proofs.YtbolanigdkgbdaaGreat
namespace Go.Proofs.YtbolanigdkgbdaaGreat
open Go Go.RowKit
set_option maxRecDepth 10000
set_option linter.unusedVariables false
set_option linter.unnecessarySimpa false
set_option linter.unusedSectionVars false
set_option maxHeartbeats 1000000
theorem bt_194 : buildTab Tryz.prog 194 = some (#[.int .i64 0, .int .i64 0, .pointer none, .pointer none, .pointer none, .bool false, .pointer none, .pointer none, .int .i64 0], [(0, 1), (1, 1), (2, 1), (3, 1), (4, 1), (5, 1), (6, 1), (7, 1), (8, 1)]) := by kernel_rfl
theorem et_187 : elemTab Tryz.prog 187 = some (1, 8) := by kernel_rfl
theorem fo_163_0 : fieldOff? Tryz.prog 163 0 = some 0 := by kernel_rfl
theorem fo_163_1 : fieldOff? Tryz.prog 163 1 = some 4 := by kernel_rfl
theorem fo_163_2 : fieldOff? Tryz.prog 163 2 = some 5 := by kernel_rfl
theorem sz_161 : (Tryz.prog.info? 161).map (·.size) = some 1 := by kernel_rfl
abbrev ptS (b : Nat) : SV := ⟨.pointer (some ⟨b, 0, none⟩), rfl⟩
abbrev ptO (o : Option Nat) : Value := .pointer (match o with | none => none | some b => some ⟨b, 0, none⟩)
def DrO (dv : Value) (l0 : List Int) (Dv : Value) (l : List Int) : Prop := ∀ w : World, (rdE zK dv l0).holds w → RdIs w Dv zK.sz l.length (zK.all l)
section
variable [Df] {w0 : World} {N H : Hp} {dv Dv : Value} {l0 l : List Int}
theorem drS (h : DrO dv l0 Dv l) : RdIn (fun w => St w0 w [rdE zK dv l0] N H) Dv zK.sz l.length (zK.all l) := fun w hw => h w (hw.hasS _ (.head _))
theorem DrO.cut (h : DrO dv l0 Dv l) (lo : Nat) (h1 : lo ≤ l.length) : DrO dv l0 (cutV Dv zK.sz lo l.length) ((l.drop lo).take (l.length - lo)) := fun w hw => RdIn.cutE (C := fun w => (rdE zK dv l0).holds w) (k := zK) h lo l.length h1 (Nat.le_refl _) w hw
theorem DrO.refl : DrO dv l0 dv l0 := fun w hw => hw
theorem Aprt.ofPick {S A T : Hp} (h : Pick N A T) : Aprt w0 S N H S A := fun w hw k hk hA => hw.apart k hk (by
  rw [keys_append]; exact List.mem_append_left _ ((h.perm.filterMap Ent.key).mem_iff.2 (by
    show k ∈ keys (A ++ T); rw [keys_append]; exact List.mem_append_left _ hA)))
end
structure Me where
  th : Int
  cap : Nat
  wd : Int
  ver : Int
  e : Int
abbrev meC (Dv Fv : Value) (x : Me) : Array Value := #[.int .i64 x.th, .int .i64 (x.cap : Int), .int .i64 x.wd, .int .i64 x.ver, Dv, Fv, .int .i64 x.e]
abbrev meB (b : Nat) (Dv Fv : Value) (x : Me) : Ent := .blk b (.cells (meC Dv Fv x) 163)
abbrev frC (ch pt : Int) (lp : Nat) (sp np bp pp : Option Nat) (rp : Int) : Array Value := #[.int .i64 ch, .int .i64 pt, .pointer (some ⟨lp, 0, none⟩), ptO sp, ptO np, .bool false, ptO bp, ptO pp, .int .i64 rp]
abbrev frB (b : Nat) (ch pt : Int) (lp : Nat) (sp np bp pp : Option Nat) (rp : Int) : Ent := .blk b (.cells (frC ch pt lp sp np bp pp rp) 194)
theorem me_begin {mb : Nat} {dv Dv Fv : Value} {l0 l : List Int} {x : Me} {fs : List Nat} {at_ : Int} (hD : DrO dv l0 Dv l) (hf : fs.length ≤ 1000000) : FnX Tryz.prog 150 [.pointer (some ⟨mb, 0, none⟩), .int .i64 at_] ([rdE zK dv l0]) ([meB mb Dv Fv x, rowE sK 187 Fv (fs.map ptS)]) (fun v N => ∃ vb fb lp, v = .tuple #[] ∧ N = [rowE sK 187 vb (([] ++ fs.map ptS) ++ [ptS fb]), frB fb at_ 1 lp none none none none 0, ddB lp (⟨x.th, (x.cap : Int), x.wd, x.ver, at_, (decide (0 < (l.length : Int)) && decide (gE l 0 % 2 = 1)), false, 1, 0, 0, 0, 0, false, 0⟩ : Dd), meB mb Dv vb x]) := by
 refine FnX.enter Tryz.func150 (by kernel_rfl) rfl (n := 41) rfl rfl (fun w df hds how => ?_)
 refine U ?_
 refine eA rfl (R.lenRd Tryz.underlying25 (.t rfl) (drS hD)) ?_
 refine eA rfl (R.gtr (.t rfl) .c) ?_
 refine U ?_
 refine eA rfl (R.indexRd Tryz.underlying25 sz_3 (.s rfl) (drS hD) .c (fun hg => (by ((simp [-List.length_eq_zero_iff] at hg; omega))))) ?_
 refine eA rfl (R.loadRd Tryz.underlying3 rfl (.s rfl) (drS hD) (fun hg => by exact Ek.get0 rfl (by ((simp [-List.length_eq_zero_iff] at hg; omega))))) ?_
 refine eA rfl (R.andV (j := 1) (m := 2) (.s rfl) .c rfl (by decide) (by decide) (by decide) (fun z hz => IntWalk.i64_in z (by omega))) ?_
 refine Z ?_
 refine At.dag [tt 0, tt 1, tt 2, tt 3, tt 6, tt 7, tt 8, tt 9, tt 11, tt 12] 11 (mT 21 [0, 1, 2, 3, 6, 7, 8, 9, 11, 12]) ([rdE zK dv l0]) (keepOf sl) (by kernel_rfl) (by kernel_rfl) (fun G hnode hdone => ?_)
 have g0 : ∀ (va : Value) (lp : Nat) (fb : Nat) (vl : Value) (vb : Value), At w 41 [rdE zK dv l0] [(21, pt mb 0), (22, pt mb 0), (23, pt mb 0), (24, pt mb 5), (25, true, Fv), (26, true, va), (27, iv at_), (28, pt mb 0), (29, pt mb 0), (30, pt mb 0), (31, true, .agg #[.int .i64 x.th, .int .i64 (x.cap : Int), .int .i64 x.wd, .int .i64 x.ver]), (32, iv at_), (33, bv (decide (0 < (l.length : Int)) && decide (gE l 0 % 2 = 1))), (34, pt lp 0), (35, true, .agg #[.int .i64 at_, .int .i64 1, .pointer (some ⟨lp, 0, none⟩), .pointer none, .pointer none, .bool false, .pointer none, .pointer none, .int .i64 0]), (36, pt fb 0), (37, true, vl), (38, true, vb), (39, pt mb 0), (40, pt mb 5), (0, pt mb 0), (1, iv at_), (4, bv (decide (0 < (l.length : Int)) && decide (gE l 0 % 2 = 1)))] ([rowE sK 187 vb (([] ++ fs.map ptS) ++ [ptS fb]), frB fb at_ 1 lp none none none none 0, ddB lp (⟨x.th, (x.cap : Int), x.wd, x.ver, at_, (decide (0 < (l.length : Int)) && decide (gE l 0 % 2 = 1)), false, 1, 0, 0, 0, 0, false, 0⟩ : Dd), meB mb Dv vb x, rowE sK 187 Fv (fs.map ptS)]) ([]) (G 0 (mF 21 [])) := fun va lp fb vl vb => by
  refine hdone _ _ _ (by kernel_rfl) ?_
  exact At.finalX0 (N' := [rowE sK 187 vb (([] ++ fs.map ptS) ++ [ptS fb]), frB fb at_ 1 lp none none none none 0, ddB lp (⟨x.th, (x.cap : Int), x.wd, x.ver, at_, (decide (0 < (l.length : Int)) && decide (gE l 0 % 2 = 1)), false, 1, 0, 0, 0, 0, false, 0⟩ : Dd), meB mb Dv vb x]) hds how rfl sl (⟨vb, fb, lp, rfl, rfl⟩) _ (.inr rfl)
 have g1 : ∀ (va : Value) (lp : Nat) (fb : Nat) (vl : Value) (vb : Value), At w 41 [rdE zK dv l0] [(21, pt mb 0), (22, pt mb 0), (23, pt mb 0), (24, pt mb 5), (25, true, Fv), (26, true, va), (27, iv at_), (28, pt mb 0), (29, pt mb 0), (30, pt mb 0), (31, true, .agg #[.int .i64 x.th, .int .i64 (x.cap : Int), .int .i64 x.wd, .int .i64 x.ver]), (32, iv at_), (33, bv (decide (0 < (l.length : Int)) && decide (gE l 0 % 2 = 1))), (34, pt lp 0), (35, true, .agg #[.int .i64 at_, .int .i64 1, .pointer (some ⟨lp, 0, none⟩), .pointer none, .pointer none, .bool false, .pointer none, .pointer none, .int .i64 0]), (36, pt fb 0), (37, true, vl), (38, true, vb), (39, pt mb 0), (40, pt mb 5), (0, pt mb 0), (1, iv at_), (4, bv (decide (0 < (l.length : Int)) && decide (gE l 0 % 2 = 1)))] ([rowE sK 187 vb (([] ++ fs.map ptS) ++ [ptS fb]), frB fb at_ 1 lp none none none none 0, ddB lp (⟨x.th, (x.cap : Int), x.wd, x.ver, at_, (decide (0 < (l.length : Int)) && decide (gE l 0 % 2 = 1)), false, 1, 0, 0, 0, 0, false, 0⟩ : Dd), meB mb Dv Fv x, rowE sK 187 Fv (fs.map ptS)]) ([]) (G 1 (mF 21 [20])) := fun va lp fb vl vb => by
  refine hnode _ _ _ _ [(20, [], 0, (mF 21 []))] (by kernel_rfl) kz ?_
  ·
   refine At.rowOne (v := vb) (M1) (fun h1v => ?_)
   refine At.st1 rfl rfl sz_161 (.t rfl) (.t rfl) h1v rfl (.n U3) ⟨kz, ?_⟩
   refine W ?_
   exact wk (g0 va lp fb vl vb)
 have g2 : ∀ (va : Value) (lp : Nat) (fb : Nat) (vl : Value), At w 41 [rdE zK dv l0] [(21, pt mb 0), (22, pt mb 0), (23, pt mb 0), (24, pt mb 5), (25, true, Fv), (26, true, va), (27, iv at_), (28, pt mb 0), (29, pt mb 0), (30, pt mb 0), (31, true, .agg #[.int .i64 x.th, .int .i64 (x.cap : Int), .int .i64 x.wd, .int .i64 x.ver]), (32, iv at_), (33, bv (decide (0 < (l.length : Int)) && decide (gE l 0 % 2 = 1))), (34, pt lp 0), (35, true, .agg #[.int .i64 at_, .int .i64 1, .pointer (some ⟨lp, 0, none⟩), .pointer none, .pointer none, .bool false, .pointer none, .pointer none, .int .i64 0]), (36, pt fb 0), (37, true, vl), (0, pt mb 0), (1, iv at_), (4, bv (decide (0 < (l.length : Int)) && decide (gE l 0 % 2 = 1)))] ([rowE sK 187 va ([] ++ fs.map ptS), rowE sK 187 vl ([ptS fb]), frB fb at_ 1 lp none none none none 0, ddB lp (⟨x.th, (x.cap : Int), x.wd, x.ver, at_, (decide (0 < (l.length : Int)) && decide (gE l 0 % 2 = 1)), false, 1, 0, 0, 0, 0, false, 0⟩ : Dd), meB mb Dv Fv x, rowE sK 187 Fv (fs.map ptS)]) ([]) (G 4 (mF 21 [17, 18, 19, 20])) := fun va lp fb vl => by
  refine hnode _ _ _ _ [(17, [tt 18, tt 19], 1, (mF 21 [20]))] (by kernel_rfl) kz ?_
  ·
   refine At.app (k := sK) rfl rfl rfl Tryz.underlying161 et_187 (.t rfl) (.t rfl) (fun _ => by (exact U0)) (wS M2) (by (simp <;> omega)) (fun v1 => ⟨kz, ?_⟩)
   refine W ?_
   exact wk (g1 va lp fb vl v1)
 have g3 : ∀ (va : Value) (lp : Nat) (fb : Nat), At w 41 [rdE zK dv l0] [(21, pt mb 0), (22, pt mb 0), (23, pt mb 0), (24, pt mb 5), (25, true, Fv), (26, true, va), (27, iv at_), (28, pt mb 0), (29, pt mb 0), (30, pt mb 0), (31, true, .agg #[.int .i64 x.th, .int .i64 (x.cap : Int), .int .i64 x.wd, .int .i64 x.ver]), (32, iv at_), (33, bv (decide (0 < (l.length : Int)) && decide (gE l 0 % 2 = 1))), (34, pt lp 0), (35, true, .agg #[.int .i64 at_, .int .i64 1, .pointer (some ⟨lp, 0, none⟩), .pointer none, .pointer none, .bool false, .pointer none, .pointer none, .int .i64 0]), (36, pt fb 0), (0, pt mb 0), (1, iv at_), (4, bv (decide (0 < (l.length : Int)) && decide (gE l 0 % 2 = 1)))] ([rowE sK 187 va ([] ++ fs.map ptS), frB fb at_ 1 lp none none none none 0, ddB lp (⟨x.th, (x.cap : Int), x.wd, x.ver, at_, (decide (0 < (l.length : Int)) && decide (gE l 0 % 2 = 1)), false, 1, 0, 0, 0, 0, false, 0⟩ : Dd), meB mb Dv Fv x, rowE sK 187 Fv (fs.map ptS)]) ([]) (G 5 (mF 21 [16, 17, 18, 19, 20])) := fun va lp fb => by
  refine hnode _ _ _ _ [(16, [], 4, (mF 21 [17, 18, 19, 20]))] (by kernel_rfl) kz ?_
  ·
   refine At.lit (k := sK) rfl rfl rfl Tryz.underlying161 et_187 (.k rfl .nil) (.cons (y := ptS fb) rfl .nil) rfl rfl rfl (fun v1 => ⟨kz, ?_⟩)
   refine W ?_
   refine At.perm (List.Perm.swap _ _ _) ?_
   exact wk (g2 va lp fb v1)
 have g4 : ∀ (va : Value) (lp : Nat), At w 41 [rdE zK dv l0] [(21, pt mb 0), (22, pt mb 0), (23, pt mb 0), (24, pt mb 5), (25, true, Fv), (26, true, va), (27, iv at_), (28, pt mb 0), (29, pt mb 0), (30, pt mb 0), (31, true, .agg #[.int .i64 x.th, .int .i64 (x.cap : Int), .int .i64 x.wd, .int .i64 x.ver]), (32, iv at_), (33, bv (decide (0 < (l.length : Int)) && decide (gE l 0 % 2 = 1))), (34, pt lp 0), (35, true, .agg #[.int .i64 at_, .int .i64 1, .pointer (some ⟨lp, 0, none⟩), .pointer none, .pointer none, .bool false, .pointer none, .pointer none, .int .i64 0]), (0, pt mb 0), (1, iv at_), (4, bv (decide (0 < (l.length : Int)) && decide (gE l 0 % 2 = 1)))] ([rowE sK 187 va ([] ++ fs.map ptS), ddB lp (⟨x.th, (x.cap : Int), x.wd, x.ver, at_, (decide (0 < (l.length : Int)) && decide (gE l 0 % 2 = 1)), false, 1, 0, 0, 0, 0, false, 0⟩ : Dd), meB mb Dv Fv x, rowE sK 187 Fv (fs.map ptS)]) ([]) (G 6 (mF 21 [15, 16, 17, 18, 19, 20])) := fun va lp => by
  refine hnode _ _ _ _ [(15, [], 5, (mF 21 [16, 17, 18, 19, 20]))] (by kernel_rfl) kz ?_
  ·
   refine At.box rfl rfl rfl (.t rfl) (fun b1 hb1 => ⟨kz, ?_⟩)
   refine W ?_
   refine At.perm (List.Perm.swap _ _ _) ?_
   exact wk (g3 va lp b1)
 have g5 : ∀ (va : Value), At w 41 [rdE zK dv l0] [(21, pt mb 0), (22, pt mb 0), (23, pt mb 0), (24, pt mb 5), (25, true, Fv), (26, true, va), (27, iv at_), (28, pt mb 0), (29, pt mb 0), (30, pt mb 0), (31, true, .agg #[.int .i64 x.th, .int .i64 (x.cap : Int), .int .i64 x.wd, .int .i64 x.ver]), (32, iv at_), (33, bv (decide (0 < (l.length : Int)) && decide (gE l 0 % 2 = 1))), (0, pt mb 0), (1, iv at_), (4, bv (decide (0 < (l.length : Int)) && decide (gE l 0 % 2 = 1)))] ([rowE sK 187 va ([] ++ fs.map ptS), meB mb Dv Fv x, rowE sK 187 Fv (fs.map ptS)]) ([]) (G 8 (mF 21 [13, 14, 15, 16, 17, 18, 19, 20])) := fun va => by
  refine hnode _ _ _ _ [(13, [tt 14], 6, (mF 21 [15, 16, 17, 18, 19, 20]))] (by kernel_rfl) kz ?_
  ·
   refine cP rfl rfl rfl (.k rfl (.k rfl (.k rfl .nil))) rfl (dd_New (a := x.th) (b := (x.cap : Int)) (c := x.wd) (d := x.ver) (chunk := at_) (dr := (decide (0 < (l.length : Int)) && decide (gE l 0 % 2 = 1)))) (fun _ h => nomatch h) (fun v N1 H1 hR => ?_); obtain ⟨lp, rfl, rfl, rfl⟩ := hR; refine ⟨rfl, kz, ?_⟩
   refine sC rfl kz (R.build bt_194 (.k rfl (.kc (.k rfl .nil))) (.cons rfl (.cons rfl (.cons rfl .nil))) rfl) ?_
   refine W ?_
   refine At.perm (List.Perm.swap _ _ _) ?_
   exact wk (g4 va lp)
 have g6 : ∀ (va : Value), At w 41 [rdE zK dv l0] [(21, pt mb 0), (22, pt mb 0), (23, pt mb 0), (24, pt mb 5), (25, true, Fv), (26, true, va), (27, iv at_), (28, pt mb 0), (29, pt mb 0), (30, pt mb 0), (32, iv at_), (33, bv (decide (0 < (l.length : Int)) && decide (gE l 0 % 2 = 1))), (0, pt mb 0), (1, iv at_), (4, bv (decide (0 < (l.length : Int)) && decide (gE l 0 % 2 = 1)))] ([rowE sK 187 va ([] ++ fs.map ptS), meB mb Dv Fv x, rowE sK 187 Fv (fs.map ptS)]) ([]) (G 9 (mF 21 [10, 13, 14, 15, 16, 17, 18, 19, 20])) := fun va => by
  refine hnode _ _ _ _ [(10, [], 8, (mF 21 [13, 14, 15, 16, 17, 18, 19, 20]))] (by kernel_rfl) kz ?_
  ·
   refine WD ?_
   exact wk (g5 va)
 have g7 : ∀ (_ : True), At w 41 [rdE zK dv l0] [(21, pt mb 0), (22, pt mb 0), (23, pt mb 0), (24, pt mb 5), (25, true, Fv), (27, iv at_), (28, pt mb 0), (29, pt mb 0), (30, pt mb 0), (31, true, .agg #[.int .i64 x.th, .int .i64 (x.cap : Int), .int .i64 x.wd, .int .i64 x.ver]), (32, iv at_), (33, bv (decide (0 < (l.length : Int)) && decide (gE l 0 % 2 = 1))), (0, pt mb 0), (1, iv at_), (4, bv (decide (0 < (l.length : Int)) && decide (gE l 0 % 2 = 1)))] ([meB mb Dv Fv x, rowE sK 187 Fv (fs.map ptS)]) ([]) (G 9 (mF 21 [5, 13, 14, 15, 16, 17, 18, 19, 20])) := fun _ => by
  refine hnode _ _ _ _ [(5, [], 8, (mF 21 [13, 14, 15, 16, 17, 18, 19, 20]))] (by kernel_rfl) kz ?_
  ·
   (refine At.nilRow sK 187 ?_; refine At.app (k := sK) rfl rfl rfl Tryz.underlying161 et_187 .c (.t rfl) (fun _ => by (exact U0)) (wS M3) (by (simp <;> omega)) (fun v1 => ⟨kz, ?_⟩))
   refine W ?_
   exact wk (g5 v1)
 have g8 : ∀ (_ : True), At w 41 [rdE zK dv l0] [(21, pt mb 0), (22, pt mb 0), (23, pt mb 0), (24, pt mb 5), (25, true, Fv), (27, iv at_), (28, pt mb 0), (29, pt mb 0), (30, pt mb 0), (32, iv at_), (33, bv (decide (0 < (l.length : Int)) && decide (gE l 0 % 2 = 1))), (0, pt mb 0), (1, iv at_), (4, bv (decide (0 < (l.length : Int)) && decide (gE l 0 % 2 = 1)))] ([meB mb Dv Fv x, rowE sK 187 Fv (fs.map ptS)]) ([]) (G 10 (mF 21 [5, 10, 13, 14, 15, 16, 17, 18, 19, 20])) := fun _ => by
  refine hnode _ _ _ _ [(5, [], 9, (mF 21 [10, 13, 14, 15, 16, 17, 18, 19, 20])), (10, [], 9, (mF 21 [5, 13, 14, 15, 16, 17, 18, 19, 20]))] (by kernel_rfl) kz ?_
  refine ⟨?_, ?_⟩
  ·
   (refine At.nilRow sK 187 ?_; refine At.app (k := sK) rfl rfl rfl Tryz.underlying161 et_187 .c (.t rfl) (fun _ => by (exact U0)) (wS M3) (by (simp <;> omega)) (fun v1 => ⟨kz, ?_⟩))
   refine W ?_
   exact wk (g6 v1)
  ·
   refine WD ?_
   exact wk (g7 trivial)
 have g9 : ∀ (_ : True), At w 41 [rdE zK dv l0] [(21, pt mb 0), (22, pt mb 0), (23, pt mb 0), (24, pt mb 5), (27, iv at_), (28, pt mb 0), (29, pt mb 0), (30, pt mb 0), (31, true, .agg #[.int .i64 x.th, .int .i64 (x.cap : Int), .int .i64 x.wd, .int .i64 x.ver]), (32, iv at_), (33, bv (decide (0 < (l.length : Int)) && decide (gE l 0 % 2 = 1))), (0, pt mb 0), (1, iv at_), (4, bv (decide (0 < (l.length : Int)) && decide (gE l 0 % 2 = 1)))] ([meB mb Dv Fv x, rowE sK 187 Fv (fs.map ptS)]) ([]) (G 10 (mF 21 [4, 5, 13, 14, 15, 16, 17, 18, 19, 20])) := fun _ => by
  refine hnode _ _ _ _ [(4, [], 9, (mF 21 [5, 13, 14, 15, 16, 17, 18, 19, 20]))] (by kernel_rfl) kz ?_
  ·
   refine WD ?_
   exact wk (g7 trivial)
 have g10 : ∀ (_ : True), At w 41 [rdE zK dv l0] [(21, pt mb 0), (22, pt mb 0), (23, pt mb 0), (24, pt mb 5), (27, iv at_), (28, pt mb 0), (29, pt mb 0), (30, pt mb 0), (32, iv at_), (33, bv (decide (0 < (l.length : Int)) && decide (gE l 0 % 2 = 1))), (0, pt mb 0), (1, iv at_), (4, bv (decide (0 < (l.length : Int)) && decide (gE l 0 % 2 = 1)))] ([meB mb Dv Fv x, rowE sK 187 Fv (fs.map ptS)]) ([]) (G 11 (mT 21 [0, 1, 2, 3, 6, 7, 8, 9, 11, 12])) := fun _ => by
  refine hnode _ _ _ _ [(4, [], 10, (mF 21 [5, 10, 13, 14, 15, 16, 17, 18, 19, 20])), (10, [], 10, (mF 21 [4, 5, 13, 14, 15, 16, 17, 18, 19, 20]))] (by kernel_rfl) kz ?_
  refine ⟨?_, ?_⟩
  ·
   refine WD ?_
   exact wk (g8 trivial)
  ·
   refine WD ?_
   exact wk (g9 trivial)
 refine W ?_
 exact wk (g10 trivial)
end Go.Proofs.YtbolanigdkgbdaaGreat
namespace Go.Proofs.YtbolanigdkgbdaaGreat
open Go Go.RowKit
set_option maxRecDepth 10000
set_option linter.unusedVariables false
set_option linter.unnecessarySimpa false
set_option linter.unusedSectionVars false
set_option maxHeartbeats 1000000
theorem bt_163 : buildTab Tryz.prog 163 = some (#[.int .i64 0, .int .i64 0, .int .i64 0, .int .i64 0, .slice none 0 0, .slice none 0 0, .int .i64 0], [(0, 4), (4, 1), (5, 1), (6, 1)]) := by kernel_rfl
theorem fo_194_1 : fieldOff? Tryz.prog 194 1 = some 1 := by kernel_rfl
theorem fo_194_2 : fieldOff? Tryz.prog 194 2 = some 2 := by kernel_rfl
theorem fo_194_7 : fieldOff? Tryz.prog 194 7 = some 7 := by kernel_rfl
theorem fo_194_8 : fieldOff? Tryz.prog 194 8 = some 8 := by kernel_rfl
theorem sz_192 : (Tryz.prog.info? 192).map (·.size) = some 1 := by kernel_rfl
theorem me_New {dv Dv : Value} {l0 l : List Int} {th wd ver at_ : Int} {cap : Nat} (hD : DrO dv l0 Dv l) : FnX Tryz.prog 119 [.agg #[.int .i64 th, .int .i64 (cap : Int), .int .i64 wd, .int .i64 ver], .int .i64 at_, Dv] ([rdE zK dv l0]) ([]) (fun v N => ∃ mb vb fb lp dr, v = .pointer (some ⟨mb, 0, none⟩) ∧ N = [rowE sK 187 vb ([ptS fb]), frB fb at_ 1 lp none none none none 0, ddB lp (⟨th, (cap : Int), wd, ver, at_, dr, false, 1, 0, 0, 0, 0, false, 0⟩ : Dd), meB mb Dv vb (⟨th, cap, wd, ver, 0⟩ : Me)]) := by
 refine FnX.enter Tryz.func119 (by kernel_rfl) rfl (n := 16) rfl rfl (fun w df hds how => ?_)
 refine At.sliceForm (drS hD) (fun sA scap hsv _ _ => ?_)
 subst hsv
 refine W ?_
 refine At.box rfl rfl rfl (.t rfl) (fun b1 hb1 => ⟨.all, ?_⟩)
 refine W ?_
 refine eA rfl (R.build bt_163 (.k rfl (.k rfl .nil)) (.cons rfl (.cons rfl .nil)) rfl) ?_
 refine At.box rfl rfl rfl (.t rfl) (fun b2 hb2 => ⟨.all, ?_⟩)
 refine W ?_
 refine At.nilRow sK 187 ?_; refine At.perm (List.Perm.swap _ _ _) ?_; refine cX rfl rfl rfl (.k rfl (.k rfl .nil)) rfl (.take (.take .nil)) (.cons (rS M0) .nil) (me_begin (mb := b2) (Dv := (.slice sA l.length scap)) (x := (⟨th, cap, wd, ver, 0⟩ : Me)) (fs := []) (at_ := at_) hD (by simp)) (Aprt.ofPick (.take (.take .nil))) (fun v B hR => ⟨.all, ?_⟩); obtain ⟨vb, fb, lp, rfl, rfl⟩ := hR
 refine W ?_
 exact At.finalX (N' := [rowE sK 187 vb ([ptS fb]), frB fb at_ 1 lp none none none none 0, ddB lp (⟨th, (cap : Int), wd, ver, at_, _, false, 1, 0, 0, 0, 0, false, 0⟩ : Dd), meB b2 (.slice sA l.length scap) vb (⟨th, cap, wd, ver, 0⟩ : Me)]) hds how rfl (.t rfl) sl (⟨b2, vb, fb, lp, _, rfl, rfl⟩)
theorem fr_splice {fb lp : Nat} {sp np bp pp : Option Nat} {ch pt rp th wd ver rp2 : Int} {cap : Nat} {d : Dd} : FnX Tryz.prog 145 [.pointer (some ⟨fb, 0, none⟩), .agg #[.int .i64 th, .int .i64 (cap : Int), .int .i64 wd, .int .i64 ver], .int .i64 rp2] ([]) ([frB fb ch pt lp sp np bp pp rp, ddB lp d]) (fun v N => ∃ pb, v = .tuple #[] ∧ N = [frB fb ch 6 lp sp np bp (some pb) rp2, ddB lp d, dpB pb (⟨th, (cap : Int), wd, ver, d.ch1, d.ch2, rp2, 1, 0, 0, 0, 0, 0⟩ : Dp)]) := by
 refine FnX.enter Tryz.func145 (by kernel_rfl) rfl (n := 33) rfl rfl (fun w df hds how => ?_)
 refine W ?_
 refine At.box rfl rfl rfl (.t rfl) (fun b1 hb1 => ⟨.all, ?_⟩)
 refine W ?_
 refine At.callVR rfl rfl rfl (.k rfl .nil) (.blk (.st M2) .nil) (fun hg => dd_Chunks (b := lp) (x := d)) .all ?_
 refine W ?_
 refine cP rfl rfl rfl (.k rfl (.k rfl (.k rfl (.k rfl .nil)))) rfl (dp_New (a := th) (b := (cap : Int)) (c := wd) (d := ver) (chunk := d.ch1) (mate := d.ch2) (repl := rp2)) (fun _ h => nomatch h) (fun v N1 H1 hR => ?_); obtain ⟨pb, rfl, rfl, rfl⟩ := hR; refine ⟨rfl, .all, ?_⟩
 refine W ?_
 refine At.st1 rfl rfl sz_3 (.t rfl) (.t rfl) rfl rfl (.n U2) ⟨.all, ?_⟩
 refine W ?_
 refine At.st1 rfl rfl sz_3 (.t rfl) .c rfl rfl (.n U2) ⟨.all, ?_⟩
 refine W ?_
 refine At.st1 rfl rfl sz_192 (.t rfl) (.t rfl) rfl rfl (.n U2) ⟨.all, ?_⟩
 refine W ?_
 refine At.fewer (N1 := [dpB pb (⟨th, (cap : Int), wd, ver, d.ch1, d.ch2, rp2, 1, 0, 0, 0, 0, 0⟩ : Dp), frB fb ch 6 lp sp np bp (some pb) rp2, ddB lp d]) sl (List.perm_append_comm (l₁ := [_]) (l₂ := [_, _])) (N' := [frB fb ch 6 lp sp np bp (some pb) rp2, ddB lp d, dpB pb (⟨th, (cap : Int), wd, ver, d.ch1, d.ch2, rp2, 1, 0, 0, 0, 0, 0⟩ : Dp)]) ?_
 exact At.finalX0 (N' := [frB fb ch 6 lp sp np bp (some pb) rp2, ddB lp d, dpB pb (⟨th, (cap : Int), wd, ver, d.ch1, d.ch2, rp2, 1, 0, 0, 0, 0, 0⟩ : Dp)]) hds how rfl (List.Sublist.refl _) (⟨pb, rfl, rfl⟩) _ (.inr rfl)
end Go.Proofs.YtbolanigdkgbdaaGreat
namespace Go.Proofs.YtbolanigdkgbdaaGreat
open Go Go.RowKit
set_option maxRecDepth 10000
set_option linter.unusedVariables false
set_option linter.unnecessarySimpa false
set_option linter.unusedSectionVars false
set_option maxHeartbeats 1000000
theorem fo_194_4 : fieldOff? Tryz.prog 194 4 = some 4 := by kernel_rfl
theorem fo_194_6 : fieldOff? Tryz.prog 194 6 = some 6 := by kernel_rfl
theorem sz_187 : (Tryz.prog.info? 187).map (·.size) = some 1 := by kernel_rfl
theorem sz_190 : (Tryz.prog.info? 190).map (·.size) = some 1 := by kernel_rfl
theorem sz_191 : (Tryz.prog.info? 191).map (·.size) = some 1 := by kernel_rfl
section
variable [Df] {w0 : World} {n : Nat} {S N H : Hp} {l : Fr}
theorem At.imp {N' : Hp} {e e' : Ent} {X : Act → World → Prop} (hu : UpL N e e' N') (hk : e'.key = e.key) (hi : ∀ w, e.holds w → e'.holds w) (h : At w0 n S l N' H X) : At w0 n S l N H X := fun a w ha hw =>
  h a w ha (hw.upd (.n hu) hk (hi w (hw.has e (List.mem_append_left _ hu.mem))) rfl rfl rfl (Nat.le_refl _) (fun _ _ _ => rfl))
theorem rowPop {w : World} {E : TypeId} {g q cap : Nat} {xs : List SV} (hx : xs.length = q) (hq : 0 < q) (h : (rowE sK E (.slice (some ⟨g, 0, none⟩) q cap) xs).holds w) : (rowE sK E (.slice (some ⟨g, 0, none⟩) (q - 1) cap) (xs.take (q - 1))).holds w := by
  obtain ⟨m, rfl⟩ : ∃ m, q = m + 1 := ⟨q - 1, by omega⟩
  rw [Nat.add_sub_cancel]
  have hl : (xs.take m).length = m := by rw [List.length_take]; omega
  have h1 : w.ownsRow 0 E 1 (.slice (some ⟨g, 0, none⟩) (m + 1) cap) (m + 1) (sK.all (xs.take m) ++ sK.all (xs.drop m)) := by
    have h2 : w.ownsRow 0 E 1 (.slice (some ⟨g, 0, none⟩) (m + 1) cap) xs.length (sK.all xs) := h
    rw [hx] at h2
    rw [← Ek.all_append, List.take_append_drop]; exact h2
  have h3 := ownsRow_pop (by rw [Ek.all_length, hl]) h1
  show w.ownsRow 0 E 1 _ (xs.take m).length (sK.all (xs.take m))
  rw [hl]; exact h3
end
theorem me_needs0 {mb fb lp ba n : Nat} {wv Dv Fv : Value} {x : Me} {sp bp pp : Option Nat} {ch pt rp : Int} {d : Dd} {r : Rr} (hn : r.w.length = n) (hN : n ≤ 1000000) (hf : r.few) (hw : r.mid 1152921504606846976) : FnX Tryz.prog 146 [.pointer (some ⟨mb, 0, none⟩), .pointer (some ⟨ba, 0, none⟩), .pointer (some ⟨fb, 0, none⟩)] ([]) ([meB mb Dv Fv x, frB fb ch pt lp sp none bp pp rp, raB ba wv r, raW wv n r]) (fun v N => ∃ nb, v = .tuple #[] ∧ N = [dnB nb (.slice none 0 0) (⟨x.th, (x.cap : Int), x.wd, x.ver, 0, 1, 0, 0, []⟩ : Dn), rowE zK 3 (.slice none 0 0) [], meB mb Dv Fv x, frB fb ch pt lp sp (some nb) bp pp rp, raB ba wv (r.load 1), raW wv n (r.load 1)]) := by
 refine FnX.enter Tryz.func146 (by kernel_rfl) rfl (n := 58) rfl rfl (fun w df hds how => ?_)
 refine W ?_
 refine eA rfl (R.eqlNilP Tryz.underlying190 (.t rfl)) ?_
 refine W ?_
 refine cM rfl rfl rfl (.k rfl (.kc .nil)) rfl (.n (.skip (.skip (.take (.take .nil))))) .nil (r_Load (r := r) (i := 1) hn hN hf) keysRa .nil ⟨.all, ?_⟩
 refine W ?_
 refine cP rfl rfl rfl (.k rfl .nil) rfl (dn_New (a := x.th) (b := (x.cap : Int)) (c := x.wd) (d := x.ver)) (fun _ h => nomatch h) (fun v N1 H1 hR => ?_); obtain ⟨nb, rfl, rfl, rfl⟩ := hR; refine ⟨rfl, .all, ?_⟩
 refine W ?_
 refine At.st1 rfl rfl sz_190 (.t rfl) (.t rfl) rfl rfl (.n U3) ⟨.all, ?_⟩
 refine W ?_
 exact At.finalX0 (N' := [dnB nb (.slice none 0 0) (⟨x.th, (x.cap : Int), x.wd, x.ver, 0, 1, 0, 0, []⟩ : Dn), rowE zK 3 (.slice none 0 0) [], meB mb Dv Fv x, frB fb ch pt lp sp (some nb) bp pp rp, raB ba wv (r.load 1), raW wv n (r.load 1)]) hds how rfl (List.Sublist.refl _) (⟨nb, rfl, rfl⟩) _ (.inl rfl)
theorem me_needs1 {mb fb lp ba n : Nat} {wv Dv Fv : Value} {x : Me} {sp bp pp : Option Nat} {ch pt rp : Int} {d : Dd} {r : Rr} {nb : Nat} {Lv : Value} {y : Dn} (hy : y.ok) (hL : y.l.length ≤ 10000) (hn : r.w.length = n) (hN : n ≤ 1000000) (hf : r.few) (hw : r.mid 1152921504606846976) : FnX Tryz.prog 146 [.pointer (some ⟨mb, 0, none⟩), .pointer (some ⟨ba, 0, none⟩), .pointer (some ⟨fb, 0, none⟩)] ([]) ([meB mb Dv Fv x, frB fb ch pt lp sp (some nb) bp pp rp, ddB lp d, dnB nb Lv y, rowE zK 3 Lv y.l, raB ba wv r, raW wv n r]) (fun v N => ∃ Lv2, v = .tuple #[] ∧ ((¬ (y.step r).1.line = 0 ∧ N = [dnB nb Lv2 (y.step r).1, rowE zK 3 Lv2 (y.step r).1.l, raB ba wv (y.step r).2, raW wv n (y.step r).2, meB mb Dv Fv x, frB fb ch pt lp sp (some nb) bp pp rp, ddB lp d]) ∨ ((y.step r).1.line = 0 ∧ ∃ bb, N = [dbB bb Lv2 (.slice none 0 0) (.slice none 0 0) (.slice none 0 0) (⟨x.th, x.cap, x.wd, x.ver, d.ch1, d.ch2, d.ch3, 1, 0, 0, 0, 0, 0, 0, 0, 0⟩ : Db), rowE zK 3 Lv2 (y.step r).1.l, raB ba wv (y.step r).2, raW wv n (y.step r).2, meB mb Dv Fv x, frB fb ch 5 lp sp (some nb) (some bb) pp rp, ddB lp d]))) := by
 refine FnX.enter Tryz.func146 (by kernel_rfl) rfl (n := 58) rfl rfl (fun w df hds how => ?_)
 refine W ?_
 refine eA rfl (R.eqlNilP Tryz.underlying190 (.t rfl)) ?_
 refine W ?_
 refine cX rfl rfl rfl (.k rfl (.k rfl .nil)) rfl (.skip (.skip (.skip .all))) .nil (dn_Step (x := y) (r := r) hy hL hn hN hf hw) Aprt.nil (fun v B hR => ⟨.all, ?_⟩); obtain ⟨Lv2, rfl, rfl⟩ := hR
 refine W ?_
 refine At.condD (.t rfl) (fun c2 => ?_) (fun c2 => ?_)
 ·
  have hz : (y.step r).1.line = 0 := (by simpa using c2)
  refine W ?_
  refine At.callVR rfl rfl rfl (.k rfl .nil) (.blk (.st M6) .nil) (fun hg => dd_Chunks (b := lp) (x := d)) .all ?_
  refine W ?_
  refine At.drawM ([meB mb Dv Fv x, frB fb ch pt lp sp (some nb) bp pp rp]) ([]) [tt 0, tt 1, tt 2, tt 3, tt 4, tt 6, tt 7, tt 8, tt 9, tt 10, tt 11] [tt 5, tt 12, ff 13, ff 14] [tt 15, tt 16, ff 17, tt 18, tt 19, ff 20] (keepOf sl) (fun _ h => nomatch h) (by kernel_rfl) (by kernel_rfl) ?_
  refine V ?_
  refine At.stage kz ?_
  refine W ?_
  refine At.callVR rfl rfl rfl (.k rfl .nil) (.blk (.st M0) .nil) (fun hg => dn_Versions (b := nb) (Lv := Lv2) (x := (y.step r).1) hz) kz ?_
  refine cX rfl rfl rfl (.k rfl (.k rfl (.k rfl (.k rfl (.k rfl .nil))))) rfl (.skip (.take .nil)) .nil (db_New (th := x.th) (cap := x.cap) (wd := x.wd) (ver := x.ver) (chunk := d.ch1) (mate := d.ch2) (after := d.ch3) (Vv := Lv2) (vs := (y.step r).1.l)) Aprt.nil (fun v B hR => ?_); obtain ⟨bb, rfl, rfl⟩ := hR; refine ⟨kz, ?_⟩
  refine At.stage Cl.none ?_
  refine W ?_
  refine At.st1 rfl rfl sz_3 (.t rfl) .c rfl rfl (.n U6) ⟨Cl.none, ?_⟩
  refine W ?_
  refine At.st1 rfl rfl sz_191 (.t rfl) (.t rfl) rfl rfl (.n U6) ⟨Cl.none, ?_⟩
  refine W ?_
  exact At.finalX0 (N' := [dbB bb Lv2 (.slice none 0 0) (.slice none 0 0) (.slice none 0 0) (⟨x.th, x.cap, x.wd, x.ver, d.ch1, d.ch2, d.ch3, 1, 0, 0, 0, 0, 0, 0, 0, 0⟩ : Db), rowE zK 3 Lv2 (y.step r).1.l, raB ba wv (y.step r).2, raW wv n (y.step r).2, meB mb Dv Fv x, frB fb ch 5 lp sp (some nb) (some bb) pp rp, ddB lp d]) hds how rfl sl (⟨Lv2, rfl, .inr ⟨hz, bb, rfl⟩⟩) _ (.inr rfl)
 ·
  have hz : ¬ (y.step r).1.line = 0 := (by simpa using c2)
  refine W ?_
  exact At.finalX0 (N' := [dnB nb Lv2 (y.step r).1, rowE zK 3 Lv2 (y.step r).1.l, raB ba wv (y.step r).2, raW wv n (y.step r).2, meB mb Dv Fv x, frB fb ch pt lp sp (some nb) bp pp rp, ddB lp d]) hds how rfl (List.Sublist.refl _) (⟨Lv2, rfl, .inl ⟨hz, rfl⟩⟩) _ (.inr rfl)
theorem me_splices {mb fb lp pb ba n : Nat} {dv wv Dv Fv : Value} {l0 l : List Int} {x : Me} {fs : List Nat} {sp np bp : Option Nat} {ch rp : Int} {d : Dd} {p : Dp} {r : Rr} (hD : DrO dv l0 Dv l) (hfs : fs.length ≤ 1000000) (hfp : 0 < fs.length) (hp : p.ok) (hn : r.w.length = n) (hN : n ≤ 1000000) (hf : r.few) (hw : r.mid 1152921504606846976) : FnX Tryz.prog 148 [.pointer (some ⟨mb, 0, none⟩), .pointer (some ⟨ba, 0, none⟩), .pointer (some ⟨fb, 0, none⟩)] ([rdE zK dv l0]) ([meB mb Dv Fv x, rowE sK 187 Fv (fs.map ptS), frB fb ch 6 lp sp np bp (some pb) rp, ddB lp d, dpB pb p, raB ba wv r, raW wv n r]) (fun v N => v = .tuple #[] ∧ ((¬ (p.step r).1.line = 0 ∧ N = [meB mb Dv Fv x, rowE sK 187 Fv (fs.map ptS), frB fb ch 6 lp sp np bp (some pb) rp, ddB lp d, dpB pb (p.step r).1, raB ba wv (p.step r).2, raW wv n (p.step r).2]) ∨ ((p.step r).1.line = 0 ∧ (p.step r).1.stuck = 0 ∧ ∃ Fv2, N = [meB mb Dv Fv2 x, rowE sK 187 Fv2 ((fs.map ptS).take (fs.length - 1)), raB ba wv (p.step r).2, raW wv n (p.step r).2]) ∨ ((p.step r).1.line = 0 ∧ ¬ (p.step r).1.stuck = 0 ∧ ∃ vb fb2 lp2 pb2 dr, N = [rowE sK 187 vb (([] ++ fs.map ptS) ++ [ptS fb2]), frB fb2 (p.step r).1.stuck 1 lp2 none none none none 0, ddB lp2 (⟨x.th, (x.cap : Int), x.wd, x.ver, (p.step r).1.stuck, dr, false, 1, 0, 0, 0, 0, false, 0⟩ : Dd), meB mb Dv vb x, frB fb ch 6 lp sp np bp (some pb2) rp, ddB lp d, dpB pb2 (⟨x.th, (x.cap : Int), x.wd, x.ver, d.ch1, d.ch2, rp, 1, 0, 0, 0, 0, 0⟩ : Dp), raB ba wv (p.step r).2, raW wv n (p.step r).2]))) := by
 refine FnX.enter Tryz.func148 (by kernel_rfl) rfl (n := 50) rfl rfl (fun w df hds how => ?_)
 refine W ?_
 refine cM rfl rfl rfl (.k rfl (.k rfl .nil)) rfl (.n (.skip (.skip (.skip (.skip (.take (.take (.take .nil)))))))) .nil (dp_Step (x := p) (r := r) hp hn hN hf hw) rfl .nil ⟨.all, ?_⟩
 refine Z ?_
 refine At.condN (.t rfl) (fun c1 => ?_) (fun c1 => ?_)
 ·
  have hz : ¬ (p.step r).1.line = 0 := (by simpa using c1)
  refine W ?_
  exact At.finalX0 (N' := [meB mb Dv Fv x, rowE sK 187 Fv (fs.map ptS), frB fb ch 6 lp sp np bp (some pb) rp, ddB lp d, dpB pb (p.step r).1, raB ba wv (p.step r).2, raW wv n (p.step r).2]) hds how rfl (List.Sublist.refl _) (⟨rfl, .inl ⟨hz, rfl⟩⟩) _ (.inl rfl)
 ·
  have hz : (p.step r).1.line = 0 := (by simpa using c1)
  refine Z ?_
  refine At.condN (.t rfl) (fun c2 => ?_) (fun c2 => ?_)
  ·
   have hs : ¬ (p.step r).1.stuck = 0 := (by simpa using c2)
   refine W ?_
   refine At.drawM ([meB mb Dv Fv x, frB fb ch 6 lp sp np bp (some pb) rp]) ([]) [tt 0, tt 1, tt 2, tt 3, tt 5, tt 6, tt 7] [tt 4, tt 8] [ff 9] (keepOf sl) (fun _ h => nomatch h) (by kernel_rfl) (by kernel_rfl) ?_
   refine V ?_
   refine At.stage kz ?_
   refine V ?_
   refine At.stage Cl.none ?_
   refine cX rfl rfl rfl (.k rfl (.k rfl (.k rfl .nil))) rfl (.skip (.skip (.take (.take .nil)))) .nil (fr_splice (fb := fb) (lp := lp) (th := x.th) (cap := x.cap) (wd := x.wd) (ver := x.ver) (rp := rp) (rp2 := rp) (d := d)) Aprt.nil (fun v B hR => ?_); obtain ⟨pb2, rfl, rfl⟩ := hR; refine ⟨Cl.none, ?_⟩
   refine W ?_
   refine cX rfl rfl rfl (.k rfl (.k rfl .nil)) rfl (.skip (.skip (.skip (.take (.take .nil))))) (.cons (rS M0) .nil) (me_begin (mb := mb) (Dv := Dv) (x := x) (fs := fs) (at_ := (p.step r).1.stuck) hD hfs) (Aprt.ofPick (.skip (.skip (.skip (.take (.take .nil)))))) (fun v B hR => ⟨.all, ?_⟩); obtain ⟨vb, fb2, lp2, rfl, rfl⟩ := hR
   refine W ?_
   exact At.finalX0 (N' := [rowE sK 187 vb (([] ++ fs.map ptS) ++ [ptS fb2]), frB fb2 (p.step r).1.stuck 1 lp2 none none none none 0, ddB lp2 (⟨x.th, (x.cap : Int), x.wd, x.ver, (p.step r).1.stuck, _, false, 1, 0, 0, 0, 0, false, 0⟩ : Dd), meB mb Dv vb x, frB fb ch 6 lp sp np bp (some pb2) rp, ddB lp d, dpB pb2 (⟨x.th, (x.cap : Int), x.wd, x.ver, d.ch1, d.ch2, rp, 1, 0, 0, 0, 0, 0⟩ : Dp), raB ba wv (p.step r).2, raW wv n (p.step r).2]) hds how rfl sl (⟨rfl, .inr (.inr ⟨hz, hs, vb, fb2, lp2, pb2, _, rfl⟩)⟩) _ (.inl rfl)
  ·
   have hs : (p.step r).1.stuck = 0 := (by simpa using c2); have hml : (fs.map ptS).length = fs.length := List.length_map _; refine At.rowForm2 (v := Fv) (M2) (by omega) (fun sg scap hsv hsc => ?_); rw [hml] at hsv hsc; subst hsv; refine At.imp (e' := rowE sK 187 (.slice (some ⟨sg, 0, none⟩) (fs.length - 1) scap) ((fs.map ptS).take (fs.length - 1))) (.there .here) rfl (fun w h => rowPop hml (by omega) h) ?_
   refine W ?_
   refine At.drawM ([meB mb Dv (.slice (some ⟨sg, 0, none⟩) fs.length scap) x]) ([]) [tt 0, tt 1, tt 2, tt 3, tt 5, tt 6, tt 7] [tt 4, tt 8, tt 9, tt 10, tt 11] [tt 12, tt 13, ff 14] (keepOf sl) (fun _ h => nomatch h) (by kernel_rfl) (by kernel_rfl) ?_
   refine V ?_
   refine At.stage kz ?_
   refine W ?_
   refine sC rfl kz (R.lenSl Tryz.underlying161 (.t rfl)) ?_
   refine sC rfl kz (R.as (R.subI (.t rfl) .c gO) (fun _ => congrArg (Value.int .i64) (by omega : ((fs.length : Nat) : Int) - 1 = ((fs.length - 1 : Nat) : Int)))) ?_
   refine sC rfl kz (R.sliceHi Tryz.underlying161 sz_187 (.t rfl) (.t rfl) gO) ?_
   refine At.stage Cl.none ?_
   refine W ?_
   refine At.st1 rfl rfl sz_161 (.t rfl) (.t rfl) rfl rfl (.n U0) ⟨Cl.none, ?_⟩
   refine W ?_
   exact At.finalX0 (N' := [meB mb Dv (.slice (some ⟨sg, 0, none⟩) (fs.length - 1) scap) x, rowE sK 187 (.slice (some ⟨sg, 0, none⟩) (fs.length - 1) scap) ((fs.map ptS).take (fs.length - 1)), raB ba wv (p.step r).2, raW wv n (p.step r).2]) hds how rfl sl (⟨rfl, .inr (.inl ⟨hz, hs, _, rfl⟩)⟩) _ (.inr rfl)
end Go.Proofs.YtbolanigdkgbdaaGreat
