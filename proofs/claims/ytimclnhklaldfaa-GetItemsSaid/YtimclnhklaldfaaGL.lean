/- GL -/
import Derived.Test.YtimclnhklaldfaaBackI
import Derived.Test.YtimclnhklaldfaaEngO
import Derived.Test.YtimclnhklaldfaaV1
import Derived.Test.YtimclnhklaldfaaP2
import Derived.Test.YtimclnhklaldfaaLgP
namespace Go.Proofs.Ytimclnhklaldfaa
open Go Go.RowKit
open Go.Shelf Go.MapKept Go.ChangeMaps
set_option maxRecDepth 10000
set_option linter.unusedVariables false
attribute [local go_sem] Oper.semAt_some
set_option maxHeartbeats 2000000
theorem bt_50 : buildTab Try.prog 50 = some (#[.int .i64 0, .bool false, .int .i64 0, .int .i64 0, .int .i64 0, .slice none 0 0], [(0, 1), (1, 1), (2, 1), (3, 1), (4, 1), (5, 1)]) := by kernel_rfl
theorem fo_50_1 : fieldOff? Try.prog 50 1 = some 1 := by kernel_rfl
theorem fo_50_2 : fieldOff? Try.prog 50 2 = some 2 := by kernel_rfl
theorem sz_4 : (Try.prog.info? 4).map (·.size) = some 1 := by kernel_rfl
theorem sz_50 : (Try.prog.info? 50).map (·.size) = some 6 := by kernel_rfl
theorem sz_55 : (Try.prog.info? 55).map (·.size) = some 1 := by kernel_rfl
theorem ze_50 : (Try.prog.info? 50).bind (·.zero) = some (.agg #[.int .i64 0, .bool false, .int .i64 0, .int .i64 0, .int .i64 0, .slice none 0 0]) := by kernel_rfl
theorem ze_55 : (Try.prog.info? 55).bind (·.zero) = some (.map none) := by kernel_rfl


structure An where
  code : Int
  found : Bool
  val : Int
  writer : Int
  version : Int
abbrev ansV (x : An) : Array Value := #[.int .i64 x.code, .bool x.found, .int .i64 x.val, .int .i64 x.writer, .int .i64 x.version, .slice none 0 0]
/-- What a range backwards over items leaves in a map: of each key the first one's data. -/
def ofF (pre : List (Int × Itm)) : List (Int × Int) := pre.foldl (fun m p => aput m p.2.key p.2.data) []
theorem ofF_snoc (pre : List (Int × Itm)) (x : Int × Itm) : ofF (pre ++ [x]) = aput (ofF pre) x.2.key x.2.data := by simp [ofF, List.foldl_append]
def ofM (xs : List Itm) : List (Int × Int) := ofF (bkI xs xs.length)
def ofA (xs : List Itm) (key : Int) : An := match aget (ofM xs) key with
  | none => ⟨0, false, 0, -1, 0⟩
  | some d => if d % 2097152 - 1 = -1 then ⟨0, false, 0, d / 2097152, 0⟩ else ⟨0, true, d % 2097152 - 1, d / 2097152, 0⟩
theorem agetZ (ml : List (Int × Int)) (k : Int) : agetV vfZ (.int .i64 0) ml k = .int .i64 ((aget ml k).getD 0) := by
  unfold agetV
  cases aget ml k <;> rfl
theorem aget_aputZ (l : List (Int × Int)) (k v k' : Int) : aget (aput l k v) k' = if k' = k then some v else aget l k' := by
  induction l with
  | nil => simp [aput, aidx, aget_cns]
  | cons x r ih =>
    rw [aput_cns]
    by_cases h : k = x.1
    · rw [if_pos h, aget_cns, aget_cns]
      by_cases h2 : k' = k
      · simp [h2]
      · have : ¬ k' = x.1 := fun e => h2 (e.trans h.symm)
        simp [h2, this]
    · rw [if_neg h, aget_cns, aget_cns, ih]
      by_cases h3 : k' = x.1
      · have : ¬ k' = k := fun e => h (e.symm.trans h3)
        rw [if_pos h3, if_pos h3, if_neg this]
      · simp [h3]
theorem bkI_rev (xs : List Itm) : (bkI xs xs.length).map (·.2) = xs.reverse := by
  apply List.ext_getElem
  · simp [bkI]
  · intro i h1 h2
    simp [bkI] at h1 ⊢
    have e : (xs.length : Int) - 1 - (i : Int) = ((xs.length - 1 - i : Nat) : Int) := by omega
    rw [e]
    simp [gE, show xs.length - 1 - i < xs.length by omega]
theorem ofM_rev (xs : List Itm) : ofM xs = xs.reverse.foldl (fun m x => aput m x.key x.data) [] := by
  rw [← bkI_rev, List.foldl_map]; rfl
theorem aget_ofM (xs : List Itm) (key : Int) : aget (ofM xs) key = (xs.find? fun x => decide (x.key = key)).map (·.data) := by
  rw [ofM_rev]
  induction xs with
  | nil => rfl
  | cons x r ih =>
    rw [List.reverse_cons, List.foldl_append, List.foldl_cons, List.foldl_nil, aget_aputZ, ih, List.find?_cons]
    by_cases h : key = x.key
    · simp [h]
    · have : ¬ x.key = key := fun e => h e.symm
      simp [h, this]
theorem ofM_data {xs : List Itm} {key d : Int} {p : Int → Prop} (h : ∀ x ∈ xs, p x.data) (hd : aget (ofM xs) key = some d) : p d := by
  rw [aget_ofM] at hd
  obtain ⟨x, hx, rfl⟩ := Option.map_eq_some_iff.1 hd
  exact h x (List.mem_of_find?_eq_some hx)
section
variable {κ α : Type} [DecidableEq κ] {P : Program} {F : Fence} {n : Nat} {ops : Array Oper} {Q : Exit → Act → World → Prop} {o : Oper} {rest : List Oper} {a : Act}
theorem wpListIn_mapUp_mE (w : World) (hg : o.guard = none) (hdst : o.dst = none) (m x y : Operand) (t : TypeId) (hop : o.op = Op.mapUpdate t m x y) {kt et : TypeId} (hT : P.underlying t = some (.map kt et)) {kf : κ → Value} {vf : α → Value} (hk : KeyOk P kt kf) (b : Nat) (ml : List (κ × α)) (k : κ) (v : α)
    (hm : a.eval m = .map (some b)) (hx : a.eval x = kf k) (hy : a.eval y = vf v) (hb : w.heap[b]? = some (.map (mEs kf vf 0 ml).toArray ml.length))
    (hK : ∀ w', w'.heap[b]? = some (.map (mEs kf vf 0 (aput ml k v)).toArray (aput ml k v).length) → w.grownBy w' (some b) → wpListIn F n P ops Q rest a w') :
    wpListIn F n P ops Q (o :: rest) a w := by
  refine wpListIn_plain hg fun K' hK' => ?_
  unfold Oper.wpIn
  refine ⟨by simp [Oper.about, hop], ?_⟩
  rw [Oper.semAt_plain F _ _ (by rw [hop]; intro c hc'; cases hc')]
  have hlt : b < w.heap.size := (Array.getElem?_eq_some_iff.1 hb).1
  have hf := hk.find _ vf k ml w
  have hupd : (Instr.mapUpdate t (.map (some b)) (kf k) (vf v)).run P w = .ok () { w with heap := w.heap.setIfInBounds b (.map (mEs kf vf 0 (aput ml k v)).toArray (aput ml k v).length) } := by
    unfold aput
    cases hi : aidx ml k 0 with
    | none =>
      rw [hi] at hf
      simp only [Option.map_none] at hf
      have e1 : (mEs kf vf 0 (ml ++ [(k, v)])).toArray = (mEs kf vf 0 ml).toArray.push { key := kf k, val := vf v, born := ml.length } := by
        rw [mEs_append]; simp
      simp [Instr.mapUpdate, run_underlying hT, MapKept.run_getObj_map hb, hk.chk, hf, MapKept.run_setObj_map _ hb, Result.andThen, e1]
    | some jv =>
      obtain ⟨j, u⟩ := jv
      rw [hi] at hf
      simp only [Option.map_some] at hf
      obtain ⟨h1, h2⟩ := aidx_spec ml k 0 j u hi
      simp only [Nat.sub_zero] at h2
      have e1 : (mEs kf vf 0 ml)[j]? = some { key := kf k, val := vf u, born := 0 + j } := by rw [mEs_get, h2]; rfl
      have e2 := mEs_modify kf vf ml j k v
      simp at e2
      have e3 : (Instr.keyThatStays (kf k) (kf k)).run P w = .ok (kf k) w := by simp [Instr.keyThatStays, hk.bits]
      simp [Instr.mapUpdate, run_underlying hT, MapKept.run_getObj_map hb, hk.chk, hf, MapKept.run_setObj_map _ hb, Result.andThen, e1, e3, e2]
  simp [execOp, hop, hm, hx, hy, hupd, Result.andThen]
  have h1 : ({ w with heap := w.heap.setIfInBounds b (.map (mEs kf vf 0 (aput ml k v)).toArray (aput ml k v).length) } : World).heap[b]? = some (.map (mEs kf vf 0 (aput ml k v)).toArray (aput ml k v).length) := by simp [hlt]
  have h2 := hK _ h1 ⟨rfl, rfl, rfl, by simp, fun q _ hq => by have : b ≠ q := fun e => hq (by rw [e]); simp [this]⟩
  rw [Oper.uponIn_skip]
  refine hK' _ _ ?_
  rw [hdst]
  exact h2
end
theorem KpB.trans {B bM : Nat} {X Y Z : World} (h : KpB B bM X Y) (k : KpB B bM Y Z) : KpB B bM X Z := ⟨Nat.le_trans h.1 k.1, fun i h1 h2 => (k.2 i h1 h2).trans (h.2 i h1 h2)⟩
set_option maxRecDepth 100000 in
set_option maxHeartbeats 4000000 in
theorem of_loop {w0 : World} {S N N' H : Hp} {l : Fr} {Q : Exit → Act → World → Prop} {bb b5 bM : Nat} {v : Value} {xs : List Itm} (hS : rdE iK v xs ∈ S) (hbd : xs.length ≤ 1000000)
    (h14 : look l 14 = some (true, .func (.func 57) #[] #[.pointer (some ⟨bb, 0, none⟩)])) (h5 : look l 5 = some (true, .pointer (some ⟨b5, 0, none⟩)))
    (hbb : Ent.blk bb (.cells #[v] 42) ∈ N) (hb5 : Ent.blk b5 (.cells #[.map (some bM)] 55) ∈ N) (hu : UpL N (mapE kfZ vfZ bM []) (mapE kfZ vfZ bM (ofM xs)) N')
    (h : ∀ (D : Nat) (df : Df), df.ds = [{ target := .collected D, args := #[] }] → @At df w0 42 S l (.blk D (.deferred (some [])) :: N') H (Q .normal)) :
    At w0 42 S l N H ((Go.Code.rangeFunc (Go.Operand.tmp 14) #[15, 16] (Go.Code.region 3 #[{ dst := some 7, op := Go.Op.alloc 45, type := 0, pos := "get.go:54", after := #[], guard := none }, { dst := none, op := Go.Op.store 45 (Go.Operand.tmp 7) (Go.Operand.tmp 16), type := 0, pos := "get.go:54", after := #[{ on := 0, ground := Go.Ground.data }, { on := 0, ground := Go.Ground.phase }], guard := none }] false) (Go.Code.block 1 (Go.Code.region 4 #[{ dst := some 17, op := Go.Op.load 55 (Go.Operand.tmp 5), type := 55, pos := "get.go:55", after := #[], guard := none }, { dst := some 18, op := Go.Op.fieldAddr 45 (Go.Operand.tmp 7) 0, type := 0, pos := "get.go:55", after := #[], guard := none }, { dst := some 19, op := Go.Op.load 3 (Go.Operand.tmp 18), type := 3, pos := "get.go:55", after := #[{ on := 1, ground := Go.Ground.data }], guard := none }, { dst := some 20, op := Go.Op.fieldAddr 45 (Go.Operand.tmp 7) 2, type := 0, pos := "get.go:55", after := #[], guard := none }, { dst := some 21, op := Go.Op.load 3 (Go.Operand.tmp 20), type := 3, pos := "get.go:55", after := #[{ on := 3, ground := Go.Ground.data }], guard := none }, { dst := none, op := Go.Op.mapUpdate 55 (Go.Operand.tmp 17) (Go.Operand.tmp 19) (Go.Operand.tmp 21), type := 0, pos := "get.go:55", after := #[{ on := 0, ground := Go.Ground.data }, { on := 2, ground := Go.Ground.data }, { on := 4, ground := Go.Ground.data }, { on := 0, ground := Go.Ground.phase }, { on := 1, ground := Go.Ground.phase }, { on := 2, ground := Go.Ground.phase }, { on := 3, ground := Go.Ground.phase }, { on := 4, ground := Go.Ground.phase }], guard := none }] false))).wp Try.prog Q) := by
  intro a w ha hw
  have hhM : w.heap[bM]? = some (.map (mEs kfZ vfZ 0 ([] : List (Int × Int))).toArray 0) := hw.has _ (List.mem_append_left _ hu.mem)
  have hhb : w.heap[bb]? = some (.cells #[v] 42) := hw.has _ (List.mem_append_left _ hbb)
  have hh5 : w.heap[b5]? = some (.cells #[.map (some bM)] 55) := hw.has _ (List.mem_append_left _ hb5)
  have hv : RdIs w v 3 xs.length (iK.all xs) := hw.hasS _ hS
  have hltM : bM < w.heap.size := (Array.getElem?_eq_some_iff.1 hhM).1
  have hlt5 : b5 < w.heap.size := (Array.getElem?_eq_some_iff.1 hh5).1
  have hMb : bM ≠ bb := fun e => by subst e; rw [hhM] at hhb; cases hhb
  have hM5 : bM ≠ b5 := fun e => by subst e; rw [hhM] at hh5; cases hh5
  have hvM : ∀ a m c, v = .slice a m c → ∀ q, a = some q → 0 < xs.length → q.block ≠ bM := fun a' m c e q hq h0 hc => by
    have hk : bM ∈ keys S := by
      refine List.mem_filterMap.2 ⟨_, hS, ?_⟩
      show (if xs.length = 0 then none else v.ownBlock) = _
      rw [if_neg (by omega), e, hq, ← hc]; rfl
    exact hw.apart _ hk (List.mem_filterMap.2 ⟨_, List.mem_append_left _ hu.mem, rfl⟩)
  obtain ⟨⟨tl⟩, ds⟩ := a
  have hsz := ha.size
  have hdf : ds = [] := ha.defers
  have e14 := ha.slot 14 _ _ h14
  have e5 := ha.slot 5 _ _ h5
  have hsl := ha.slot
  subst hdf
  rcases tl with _ | ⟨x0, _ | ⟨x1, _ | ⟨x2, _ | ⟨x3, _ | ⟨x4, _ | ⟨x5, _ | ⟨x6, _ | ⟨x7, _ | ⟨x8, _ | ⟨x9, _ | ⟨x10, _ | ⟨x11, _ | ⟨x12, _ | ⟨x13, _ | ⟨x14, _ | ⟨x15, _ | ⟨x16, _ | ⟨x17, _ | ⟨x18, _ | ⟨x19, _ | ⟨x20, _ | ⟨x21, _ | ⟨x22, _ | ⟨x23, _ | ⟨x24, _ | ⟨x25, _ | ⟨x26, _ | ⟨x27, _ | ⟨x28, _ | ⟨x29, _ | ⟨x30, _ | ⟨x31, _ | ⟨x32, _ | ⟨x33, _ | ⟨x34, _ | ⟨x35, _ | ⟨x36, _ | ⟨x37, _ | ⟨x38, _ | ⟨x39, _ | ⟨x40, _ | ⟨x41, _ | ⟨zz, zt⟩⟩⟩⟩⟩⟩⟩⟩⟩⟩⟩⟩⟩⟩⟩⟩⟩⟩⟩⟩⟩⟩⟩⟩⟩⟩⟩⟩⟩⟩⟩⟩⟩⟩⟩⟩⟩⟩⟩⟩⟩⟩⟩
  all_goals first | (exfalso; simp at hsz; done) | skip
  simp at e14 e5
  subst e14 e5
  refine (wpIn_wide (n := 3)).1 (wpIn_rangeFunc_ownH (F := Fence.wide) rfl (by omega) (gf := 57) (lb := #[.pointer (some ⟨bb, 0, none⟩)]) rfl trivial (enters_of Try.func57 (by kernel_rfl) rfl)
    (back_all Fence.wide 2 trivial rfl (by omega) bb bM v xs w hMb hhb hv hvM hbd) KpB.trans (fun W l o o' hl _ _ _ => ⟨by simp [World.putObj], fun k hk _ => World.putObj_heap_other (by omega)⟩) (Below.refl _ w) (fun _ => rfl)
    (fun pre W => (W.os = w.os ∧ W.tape = w.tape ∧ W.output = w.output ∧ w.heap.size ≤ W.heap.size) ∧ (∀ k, k < w.heap.size → k ≠ bM → W.heap[k]? = w.heap[k]?) ∧ W.heap[bM]? = some (.map (mEs kfZ vfZ 0 (ofF pre)).toArray (ofF pre).length))
    (fun _ _ _ => False)
    (fun s X Y row hs hg hr => ⟨⟨hg.os.trans hs.1.1, hg.tape.trans hs.1.2.1, hg.output.trans hs.1.2.2.1, Nat.le_trans hs.1.2.2.2 hg.size⟩, fun k hk hne => (hg.block k (Nat.lt_of_lt_of_le hk hs.1.2.2.2) (fun e => by have := (hr k e.symm).1; omega)).trans (hs.2.1 k hk hne), (hg.block bM (Nat.lt_of_lt_of_le hltM hs.1.2.2.2) (fun e => by have := (hr bM e.symm).1; omega)).trans hs.2.2⟩)
    (fun _ _ _ _ _ hs _ _ => hs)
    ⟨⟨rfl, rfl, rfl, Nat.le_refl _⟩, fun _ _ _ => rfl, hhM⟩
    (fun x a' W => ∃ Bx, w.heap.size ≤ Bx ∧ W.heap[Bx]? = some (.cells #[.int .i64 x.2.key, .int .i64 x.2.ver, .int .i64 x.2.data] 45) ∧ a' = { tmps := #[x0, x1, x2, x3, x4, .pointer (some ⟨b5, 0, none⟩), x6, .pointer (some ⟨Bx, 0, none⟩), x8, x9, x10, x11, x12, x13, .func (.func 57) #[] #[.pointer (some ⟨bb, 0, none⟩)], .int .i64 x.1, .agg #[.int .i64 x.2.key, .int .i64 x.2.ver, .int .i64 x.2.data], x17, x18, x19, x20, x21, x22, x23, x24, x25, x26, x27, x28, x29, x30, x31, x32, x33, x34, x35, x36, x37, x38, x39, x40, x41], defers := [] })
    (fun x a' s X Y row ⟨Bx, h1, h2, h3⟩ hg hr => ⟨Bx, h1, (cellsOwn (β := Unit) Bx _ rfl).from _ () X Y row h2 hg hr, h3⟩) ?assign ?body ?done ?stop)
  case assign =>
    rintro l pre x W K ⟨⟨g1, g2, g3, g4⟩, hk, hm⟩ hK
    gi_wp2
    have hI : ∀ k, k < W.heap.size → (W.alloc (.cells #[.int .i64 x.2.key, .int .i64 x.2.ver, .int .i64 x.2.data] 45)).heap[k]? = W.heap[k]? := fun k hk => heap_alloc_lt W _ hk
    refine hK _ _ ((KeepsOthers.alloc _ _).from _) ⟨by simp, fun k h1 h2 => hI k (by omega)⟩ ⟨⟨g1, g2, g3, by simp; omega⟩, fun k h1 h2 => (hI k (by omega)).trans (hk k h1 h2), (hI bM (by omega)).trans hm⟩ ⟨W.heap.size, g4, heap_alloc_new' W _, rfl⟩
  case body =>
    rintro l pre x a' W hl ⟨r, hr⟩ ⟨⟨g1, g2, g3, g4⟩, hk, hm⟩ ⟨Bx, hBx, bX, rfl⟩ hlt
    have hc5 : W.cell? ⟨b5, 0, none⟩ = some (.map (some bM)) := cell_of_blk ((hk b5 hlt5 (fun e => hM5 e.symm)).trans hh5) rfl
    have hc0 : W.cell? ⟨Bx, 0, none⟩ = some (.int .i64 x.2.key) := cell_of_blk bX rfl
    have hc2 : W.cell? ⟨Bx, 2, none⟩ = some (.int .i64 x.2.data) := cell_of_blk bX rfl
    gi_wp2_with (refine wpListIn_mapUp_mE (kf := kfZ) (vf := vfZ) _ rfl rfl _ _ _ _ rfl Try.underlying55 (keyOk_int Try.underlying3) bM (ofF pre) x.2.key x.2.data rfl rfl rfl hm ?_; intro w1 hm1 hg1)
    rw [← ofF_snoc] at hm1
    have hkb : ∀ k, k < w.heap.size → k ≠ bM → w1.heap[k]? = W.heap[k]? := fun k h1 h2 => hg1.block k (by omega) (fun e => h2 (by cases e; rfl))
    exact ⟨KeepsFrom.of_grownBy hg1 (fun j hj => by cases hj; exact hltM), ⟨hg1.size, hkb⟩, ⟨hg1.os.trans g1, hg1.tape.trans g2, hg1.output.trans g3, Nat.le_trans g4 hg1.size⟩, fun k h1 h2 => (hkb k h1 h2).trans (hk k h1 h2), hm1⟩
  case done =>
    rintro D ys W hD rfl ⟨⟨g1, g2, g3, g4⟩, hk, hm⟩ hK
    have hDW : D < W.heap.size := (Array.getElem?_eq_some_iff.1 hK).1
    have h1 : St w0 (w.putObj bM (.map (mEs kfZ vfZ 0 (ofM xs)).toArray (ofM xs).length)) S N' H := hw.upd (Up.n hu) rfl (World.putObj_heap_same hltM) rfl rfl rfl (by simp [World.putObj]) (fun k hk hne => World.putObj_heap_other (fun e => hne (by rw [e]; rfl)))
    have h2 : St w0 W S (.blk D (.deferred (some [])) :: N') H := h1.addN (e' := .blk D (.deferred (some []))) (fun k hk => by cases hk; simpa [World.putObj] using hD) hK g1 g2 g3 (by simpa [World.putObj] using g4) (fun k hk' => by
      have hk2 : k < w.heap.size := by simpa [World.putObj] using hk'
      by_cases e : k = bM
      · subst e; exact hm.trans (World.putObj_heap_same hltM).symm
      · rw [World.putObj_heap_other e]; exact hk k hk2 e)
    exact h D ⟨[{ target := .collected D, args := #[] }]⟩ rfl _ W (@Fk.mk ⟨[{ target := .collected D, args := #[] }]⟩ _ _ _ hsz rfl hsl) h2
  case stop =>
    rintro D c pre W _ _ h _
    exact h.elim
theorem b_Back {A1 : Option Addr} {m cap : Nat} : Fn Try.prog 41 [.slice A1 m cap] ([]) ([]) (fun u N H => ∃ b, u = .func (.func 57) #[] #[.pointer (some ⟨b, 0, none⟩)] ∧ N = [.blk b (.cells #[.slice A1 m cap] 42)] ∧ H = []) := by
  refine Fn.enter Try.func41 (by kernel_rfl) rfl (n := 4) rfl rfl (fun w => ?_)
  refine At.seq ?_
  refine At.plain [(false, 0), (false, 1)] rfl ?_
  refine At.box rfl rfl rfl (.t rfl) (fun b1 hb1 => ⟨.all, ?_⟩)
  refine At.e rfl rfl rfl rfl .all (R.assign .c) ?_
  refine At.nil ?_
  refine At.tN ?_
  refine At.seq ?_
  refine At.plain [(false, 0), (false, 1)] rfl ?_
  refine At.e rfl rfl rfl rfl .all (R.makeFunc .nil (.cons (.t rfl) .nil)) ?_
  refine At.e rfl rfl rfl rfl .all (R.assign (.t rfl)) ?_
  refine At.nil ?_
  refine At.tN ?_
  refine At.ret ?_
  exact At.final (N' := [.blk b1 (.cells #[.slice A1 m cap] 42)]) rfl (.t rfl) (by (((repeat (first | exact List.Sublist.refl _ | exact List.nil_sublist _ | apply List.Sublist.cons_cons | apply List.Sublist.cons | exact List.sublist_append_right _ _ | exact List.sublist_append_left _ _ | apply List.Sublist.append_left | apply List.sublist_append_of_sublist_right)) <;> fail))) (⟨b1, rfl, rfl, rfl⟩)

theorem g_Of {v : Value} {xs : List Itm} {key : Int} (hbd : xs.length ≤ 1000000) (hdt : ∀ x ∈ xs, 0 ≤ x.data ∧ x.data ≤ 9223372036854775807) : Fn Try.prog 19 [v, .int .i64 key] ([rdE iK v xs]) ([]) (IsV (.agg (ansV (ofA xs key)))) := by
  refine Fn.enterM Try.func19 (by kernel_rfl) rfl (n := 42) rfl rfl (fun w => ?_)
  refine At.sliceForm (v := v) (by (first | exact rS M0 | exact wS M0 | exact rS M1 | exact wS M1 | exact rS M2 | exact wS M2 | exact rS M3 | exact wS M3 | exact rS M4 | exact wS M4 | exact rS M5 | exact wS M5 | exact rS M6 | exact wS M6 | exact rS M7 | exact wS M7 | exact rS M8 | exact wS M8 | exact rS M9 | exact wS M9 | exact RdIn.nil | exact (fun w hw => hrK w (Cl.kept (by (first | exact fun _ h => h | exact keepOf (by (((repeat (first | exact List.Sublist.refl _ | exact List.nil_sublist _ | apply List.Sublist.cons_cons | apply List.Sublist.cons | exact List.sublist_append_right _ _ | exact List.sublist_append_left _ _ | apply List.Sublist.append_left | apply List.sublist_append_of_sublist_right)) <;> fail))))) w hw)))) (fun A1 cap hv hcap hA => ?_)
  subst hv
  refine At.seq ?_
  refine At.plain [(false, 0)] rfl ?_
  refine At.alloc rfl rfl rfl ze_50 (fun b1 hb1 => ⟨.all, ?_⟩)
  refine At.nil ?_
  refine At.tN ?_
  refine At.seq ?_
  refine At.plain [(false, 0), (false, 1), (false, 2)] rfl ?_
  refine At.makeMap kfZ vfZ rfl rfl rfl (fun b2 hb2 => ⟨.all, ?_⟩)
  refine At.alloc rfl rfl rfl ze_55 (fun b3 hb3 => ⟨.all, ?_⟩)
  first | refine At.st1 rfl rfl sz_55 (.t rfl) (.t rfl) rfl rfl (.n U0) ⟨.all, ?_⟩ | refine At.st1 rfl rfl sz_55 (.t rfl) (.t rfl) rfl rfl (.n U1) ⟨.all, ?_⟩ | refine At.st1 rfl rfl sz_55 (.t rfl) (.t rfl) rfl rfl (.n U2) ⟨.all, ?_⟩ | refine At.st1 rfl rfl sz_55 (.t rfl) (.t rfl) rfl rfl (.n U3) ⟨.all, ?_⟩ | refine At.st1 rfl rfl sz_55 (.t rfl) (.t rfl) rfl rfl (.n U4) ⟨.all, ?_⟩ | refine At.st1 rfl rfl sz_55 (.t rfl) (.t rfl) rfl rfl (.n U5) ⟨.all, ?_⟩ | refine At.st1 rfl rfl sz_55 (.t rfl) (.t rfl) rfl rfl (.n U6) ⟨.all, ?_⟩ | refine At.st1 rfl rfl sz_55 (.t rfl) (.t rfl) rfl rfl (.n U7) ⟨.all, ?_⟩ | refine At.st1 rfl rfl sz_55 (.t rfl) (.t rfl) rfl rfl (.h U0) ⟨.all, ?_⟩ | refine At.st1 rfl rfl sz_55 (.t rfl) (.t rfl) rfl rfl (.h U1) ⟨.all, ?_⟩ | refine At.st1 rfl rfl sz_55 (.t rfl) (.t rfl) rfl rfl (.h U2) ⟨.all, ?_⟩ | refine At.st1 rfl rfl sz_55 (.t rfl) (.t rfl) rfl rfl (.h U3) ⟨.all, ?_⟩
  refine At.nil ?_
  refine At.tN ?_
  refine At.seq ?_
  refine At.seq ?_
  refine At.plain [(false, 0), (false, 1)] rfl ?_
  refine At.e rfl rfl rfl rfl .all (R.move (.t rfl)) ?_
  refine At.callP (fst := []) (cap := []) rfl rfl rfl Ev.f (.cons (.t rfl) .nil) rfl (b_Back (A1 := A1) (m := xs.length) (cap := cap)) (fun _ h => nomatch h) (fun u N1 H1 hR => ?_); obtain ⟨bb, rfl, rfl, rfl⟩ := hR; refine ⟨rfl, .all, ?_⟩
  refine At.nil ?_
  refine At.tN ?_
  refine At.block ?_
  refine of_loop (bb := bb) (b5 := b3) (bM := b2) (v := .slice A1 xs.length cap) (xs := xs) (.head _) hbd rfl rfl (.head _) (.tail _ (.head _)) (.there (.there .here)) (fun D df hdf => ?_)
  refine At.bN ?_
  refine At.tN ?_
  refine At.seq ?_
  refine At.plain [(false, 0), (false, 1), (false, 2), (false, 3), (false, 4), (false, 5), (false, 6), (false, 7)] rfl ?_
  refine At.e rfl rfl rfl rfl .all (R.load Try.underlying55 rfl (.t rfl) (by first | exact cS M0 rfl | exact cS M1 rfl | exact cS M2 rfl | exact cS M3 rfl | exact cS M4 rfl | exact cS M5 rfl | exact cS M6 rfl | exact cS M7 rfl)) ?_
  refine At.e rfl rfl rfl rfl .all (R.move (.t rfl)) ?_
  refine At.e rfl rfl rfl rfl .all (R.lookup2 (kf := kfZ) (vf := vfZ) Try.underlying55 (keyOk_int Try.underlying3) ze_3 (.t rfl) (.t rfl) (by first | exact Holds.st M0 | exact Holds.st M1 | exact Holds.st M2 | exact Holds.st M3 | exact Holds.st M4 | exact Holds.st M5)) ?_
  refine At.e rfl rfl rfl rfl .all (R.move (.t rfl)) ?_
  refine At.e rfl rfl rfl rfl .all (R.as (R.extract (.t rfl) rfl) (fun _ => agetZ (ofM xs) key)) ?_
  refine At.e rfl rfl rfl rfl .all (R.extract (.t rfl) rfl) ?_
  refine At.e rfl rfl rfl rfl .all (R.assign (.t rfl)) ?_
  refine At.e rfl rfl rfl rfl .all (R.assign (.t rfl)) ?_
  refine At.nil ?_
  refine At.tN ?_
  refine At.seq ?_
  refine At.seq ?_
  refine At.plain [(false, 0), (false, 1)] rfl ?_
  refine At.e rfl rfl rfl rfl .all (R.move (.t rfl)) ?_
  refine At.e rfl rfl rfl rfl .all (R.not (.t rfl)) ?_
  refine At.nil ?_
  refine At.tN ?_
  first | refine At.condD (.t rfl) (fun c1 => ?_) (fun c1 => ?_) | refine At.condN (.t rfl) (fun c1 => ?_) (fun c1 => ?_) | refine At.cond (.t rfl) (fun c1 => ?_) (fun c1 => ?_)
  · have hnone : aget (ofM xs) key = none := (by simpa using c1)
    refine At.seq ?_
    refine At.plain [(false, 0), (false, 1)] rfl ?_
    refine At.e rfl rfl rfl rfl .all (R.build bt_50 (.cons .c .nil) (.cons rfl .nil) rfl) ?_
    first | refine At.stN rfl rfl sz_50 (.t rfl) (.t rfl) rfl rfl rfl (.n U4) ⟨.all, ?_⟩
    refine At.nil ?_
    refine At.tN ?_
    refine At.ret ?_
    refine At.tR ?_
    exact At.finalM hdf rfl (by first | exact .here | exact .there .here | exact .there (.there .here) | exact .there (.there (.there .here)) | exact .there (.there (.there (.there .here)))) (.a (vs := [_, _, _, _, _, _]) Try.underlying50 rfl sz_50 rfl (csS M5 ⟨rfl, rfl, rfl, rfl, rfl, rfl, trivial⟩)) (List.nil_sublist _) (⟨by unfold ofA; first | (rw [hnone]; done) | (rw [hnone]; rfl) | (rw [hsome]; simp only [hv1]; rfl) | (rw [hsome]; simp [hv1]), rfl, rfl⟩)
  · obtain ⟨d, hsome⟩ : ∃ d, aget (ofM xs) key = some d := (Option.isSome_iff_exists.1 (by simpa using c1)); have hd0 : 0 ≤ d ∧ d ≤ 9223372036854775807 := ofM_data (p := fun d => 0 ≤ d ∧ d ≤ 9223372036854775807) hdt hsome; have hdd : ((aget (ofM xs) key).getD 0) = d := (by rw [hsome]; rfl); generalize ((aget (ofM xs) key).getD 0) = dd at hdd ⊢; subst hdd
    refine At.skip ?_
    refine At.tN ?_
    refine At.seq ?_
    refine At.plain [(false, 0), (false, 1), (false, 2), (false, 3), (false, 4)] rfl ?_
    refine At.e rfl rfl rfl rfl .all (R.move (.t rfl)) ?_
    refine At.callVR rfl rfl rfl (.cons (.t rfl) .nil) (by (first | exact .nil | exact .cons (by (first | exact rS M0 | exact wS M0 | exact rS M1 | exact wS M1 | exact rS M2 | exact wS M2 | exact rS M3 | exact wS M3 | exact rS M4 | exact wS M4 | exact rS M5 | exact wS M5 | exact rS M6 | exact wS M6 | exact rS M7 | exact wS M7 | exact rS M8 | exact wS M8 | exact rS M9 | exact wS M9 | exact RdIn.nil | exact (fun w hw => hrK w (Cl.kept (by (first | exact fun _ h => h | exact keepOf (by (((repeat (first | exact List.Sublist.refl _ | exact List.nil_sublist _ | apply List.Sublist.cons_cons | apply List.Sublist.cons | exact List.sublist_append_right _ _ | exact List.sublist_append_left _ _ | apply List.Sublist.append_left | apply List.sublist_append_of_sublist_right)) <;> fail))))) w hw)))) .nil | exact .cons (by (first | exact rS M0 | exact wS M0 | exact rS M1 | exact wS M1 | exact rS M2 | exact wS M2 | exact rS M3 | exact wS M3 | exact rS M4 | exact wS M4 | exact rS M5 | exact wS M5 | exact rS M6 | exact wS M6 | exact rS M7 | exact wS M7 | exact rS M8 | exact wS M8 | exact rS M9 | exact wS M9 | exact RdIn.nil | exact (fun w hw => hrK w (Cl.kept (by (first | exact fun _ h => h | exact keepOf (by (((repeat (first | exact List.Sublist.refl _ | exact List.nil_sublist _ | apply List.Sublist.cons_cons | apply List.Sublist.cons | exact List.sublist_append_right _ _ | exact List.sublist_append_left _ _ | apply List.Sublist.append_left | apply List.sublist_append_of_sublist_right)) <;> fail))))) w hw)))) (.blk (.st M0) .nil) | exact .cons (by (first | exact rS M0 | exact wS M0 | exact rS M1 | exact wS M1 | exact rS M2 | exact wS M2 | exact rS M3 | exact wS M3 | exact rS M4 | exact wS M4 | exact rS M5 | exact wS M5 | exact rS M6 | exact wS M6 | exact rS M7 | exact wS M7 | exact rS M8 | exact wS M8 | exact rS M9 | exact wS M9 | exact RdIn.nil | exact (fun w hw => hrK w (Cl.kept (by (first | exact fun _ h => h | exact keepOf (by (((repeat (first | exact List.Sublist.refl _ | exact List.nil_sublist _ | apply List.Sublist.cons_cons | apply List.Sublist.cons | exact List.sublist_append_right _ _ | exact List.sublist_append_left _ _ | apply List.Sublist.append_left | apply List.sublist_append_of_sublist_right)) <;> fail))))) w hw)))) (.blk (.st M1) .nil) | exact .blk (.st M0) .nil | exact .blk (.st M1) .nil | exact .blk (.st M2) .nil | exact .blk (.st M3) .nil | exact .cons (by (first | exact rS M0 | exact wS M0 | exact rS M1 | exact wS M1 | exact rS M2 | exact wS M2 | exact rS M3 | exact wS M3 | exact rS M4 | exact wS M4 | exact rS M5 | exact wS M5 | exact rS M6 | exact wS M6 | exact rS M7 | exact wS M7 | exact rS M8 | exact wS M8 | exact rS M9 | exact wS M9 | exact RdIn.nil | exact (fun w hw => hrK w (Cl.kept (by (first | exact fun _ h => h | exact keepOf (by (((repeat (first | exact List.Sublist.refl _ | exact List.nil_sublist _ | apply List.Sublist.cons_cons | apply List.Sublist.cons | exact List.sublist_append_right _ _ | exact List.sublist_append_left _ _ | apply List.Sublist.append_left | apply List.sublist_append_of_sublist_right)) <;> fail))))) w hw)))) (.cons (by (first | exact rS M0 | exact wS M0 | exact rS M1 | exact wS M1 | exact rS M2 | exact wS M2 | exact rS M3 | exact wS M3 | exact rS M4 | exact wS M4 | exact rS M5 | exact wS M5 | exact rS M6 | exact wS M6 | exact rS M7 | exact wS M7 | exact rS M8 | exact wS M8 | exact rS M9 | exact wS M9 | exact RdIn.nil | exact (fun w hw => hrK w (Cl.kept (by (first | exact fun _ h => h | exact keepOf (by (((repeat (first | exact List.Sublist.refl _ | exact List.nil_sublist _ | apply List.Sublist.cons_cons | apply List.Sublist.cons | exact List.sublist_append_right _ _ | exact List.sublist_append_left _ _ | apply List.Sublist.append_left | apply List.sublist_append_of_sublist_right)) <;> fail))))) w hw)))) .nil) | exact .cons (by (first | exact rS M0 | exact wS M0 | exact rS M1 | exact wS M1 | exact rS M2 | exact wS M2 | exact rS M3 | exact wS M3 | exact rS M4 | exact wS M4 | exact rS M5 | exact wS M5 | exact rS M6 | exact wS M6 | exact rS M7 | exact wS M7 | exact rS M8 | exact wS M8 | exact rS M9 | exact wS M9 | exact RdIn.nil | exact (fun w hw => hrK w (Cl.kept (by (first | exact fun _ h => h | exact keepOf (by (((repeat (first | exact List.Sublist.refl _ | exact List.nil_sublist _ | apply List.Sublist.cons_cons | apply List.Sublist.cons | exact List.sublist_append_right _ _ | exact List.sublist_append_left _ _ | apply List.Sublist.append_left | apply List.sublist_append_of_sublist_right)) <;> fail))))) w hw)))) (.cons (by (first | exact rS M0 | exact wS M0 | exact rS M1 | exact wS M1 | exact rS M2 | exact wS M2 | exact rS M3 | exact wS M3 | exact rS M4 | exact wS M4 | exact rS M5 | exact wS M5 | exact rS M6 | exact wS M6 | exact rS M7 | exact wS M7 | exact rS M8 | exact wS M8 | exact rS M9 | exact wS M9 | exact RdIn.nil | exact (fun w hw => hrK w (Cl.kept (by (first | exact fun _ h => h | exact keepOf (by (((repeat (first | exact List.Sublist.refl _ | exact List.nil_sublist _ | apply List.Sublist.cons_cons | apply List.Sublist.cons | exact List.sublist_append_right _ _ | exact List.sublist_append_left _ _ | apply List.Sublist.append_left | apply List.sublist_append_of_sublist_right)) <;> fail))))) w hw)))) (.cons (by (first | exact rS M0 | exact wS M0 | exact rS M1 | exact wS M1 | exact rS M2 | exact wS M2 | exact rS M3 | exact wS M3 | exact rS M4 | exact wS M4 | exact rS M5 | exact wS M5 | exact rS M6 | exact wS M6 | exact rS M7 | exact wS M7 | exact rS M8 | exact wS M8 | exact rS M9 | exact wS M9 | exact RdIn.nil | exact (fun w hw => hrK w (Cl.kept (by (first | exact fun _ h => h | exact keepOf (by (((repeat (first | exact List.Sublist.refl _ | exact List.nil_sublist _ | apply List.Sublist.cons_cons | apply List.Sublist.cons | exact List.sublist_append_right _ _ | exact List.sublist_append_left _ _ | apply List.Sublist.append_left | apply List.sublist_append_of_sublist_right)) <;> fail))))) w hw)))) .nil)))) (fun hg => w_Writer hd0) .all ?_
    refine At.e rfl rfl rfl rfl .all (R.build bt_50 (.cons (.t rfl) .nil) (.cons rfl .nil) rfl) ?_
    refine At.alloc rfl rfl rfl ze_50 (fun b4 hb4 => ⟨.all, ?_⟩)
    first | refine At.stN rfl rfl sz_50 (.t rfl) (.t rfl) rfl rfl rfl (.n U0) ⟨.all, ?_⟩
    refine At.nil ?_
    refine At.tN ?_
    refine At.seq ?_
    refine At.seq ?_
    refine At.plain [(false, 0), (false, 1), (false, 2)] rfl ?_
    refine At.e rfl rfl rfl rfl .all (R.move (.t rfl)) ?_
    refine At.callVR rfl rfl rfl (.cons (.t rfl) .nil) (by (first | exact .nil | exact .cons (by (first | exact rS M0 | exact wS M0 | exact rS M1 | exact wS M1 | exact rS M2 | exact wS M2 | exact rS M3 | exact wS M3 | exact rS M4 | exact wS M4 | exact rS M5 | exact wS M5 | exact rS M6 | exact wS M6 | exact rS M7 | exact wS M7 | exact rS M8 | exact wS M8 | exact rS M9 | exact wS M9 | exact RdIn.nil | exact (fun w hw => hrK w (Cl.kept (by (first | exact fun _ h => h | exact keepOf (by (((repeat (first | exact List.Sublist.refl _ | exact List.nil_sublist _ | apply List.Sublist.cons_cons | apply List.Sublist.cons | exact List.sublist_append_right _ _ | exact List.sublist_append_left _ _ | apply List.Sublist.append_left | apply List.sublist_append_of_sublist_right)) <;> fail))))) w hw)))) .nil | exact .cons (by (first | exact rS M0 | exact wS M0 | exact rS M1 | exact wS M1 | exact rS M2 | exact wS M2 | exact rS M3 | exact wS M3 | exact rS M4 | exact wS M4 | exact rS M5 | exact wS M5 | exact rS M6 | exact wS M6 | exact rS M7 | exact wS M7 | exact rS M8 | exact wS M8 | exact rS M9 | exact wS M9 | exact RdIn.nil | exact (fun w hw => hrK w (Cl.kept (by (first | exact fun _ h => h | exact keepOf (by (((repeat (first | exact List.Sublist.refl _ | exact List.nil_sublist _ | apply List.Sublist.cons_cons | apply List.Sublist.cons | exact List.sublist_append_right _ _ | exact List.sublist_append_left _ _ | apply List.Sublist.append_left | apply List.sublist_append_of_sublist_right)) <;> fail))))) w hw)))) (.blk (.st M0) .nil) | exact .cons (by (first | exact rS M0 | exact wS M0 | exact rS M1 | exact wS M1 | exact rS M2 | exact wS M2 | exact rS M3 | exact wS M3 | exact rS M4 | exact wS M4 | exact rS M5 | exact wS M5 | exact rS M6 | exact wS M6 | exact rS M7 | exact wS M7 | exact rS M8 | exact wS M8 | exact rS M9 | exact wS M9 | exact RdIn.nil | exact (fun w hw => hrK w (Cl.kept (by (first | exact fun _ h => h | exact keepOf (by (((repeat (first | exact List.Sublist.refl _ | exact List.nil_sublist _ | apply List.Sublist.cons_cons | apply List.Sublist.cons | exact List.sublist_append_right _ _ | exact List.sublist_append_left _ _ | apply List.Sublist.append_left | apply List.sublist_append_of_sublist_right)) <;> fail))))) w hw)))) (.blk (.st M1) .nil) | exact .blk (.st M0) .nil | exact .blk (.st M1) .nil | exact .blk (.st M2) .nil | exact .blk (.st M3) .nil | exact .cons (by (first | exact rS M0 | exact wS M0 | exact rS M1 | exact wS M1 | exact rS M2 | exact wS M2 | exact rS M3 | exact wS M3 | exact rS M4 | exact wS M4 | exact rS M5 | exact wS M5 | exact rS M6 | exact wS M6 | exact rS M7 | exact wS M7 | exact rS M8 | exact wS M8 | exact rS M9 | exact wS M9 | exact RdIn.nil | exact (fun w hw => hrK w (Cl.kept (by (first | exact fun _ h => h | exact keepOf (by (((repeat (first | exact List.Sublist.refl _ | exact List.nil_sublist _ | apply List.Sublist.cons_cons | apply List.Sublist.cons | exact List.sublist_append_right _ _ | exact List.sublist_append_left _ _ | apply List.Sublist.append_left | apply List.sublist_append_of_sublist_right)) <;> fail))))) w hw)))) (.cons (by (first | exact rS M0 | exact wS M0 | exact rS M1 | exact wS M1 | exact rS M2 | exact wS M2 | exact rS M3 | exact wS M3 | exact rS M4 | exact wS M4 | exact rS M5 | exact wS M5 | exact rS M6 | exact wS M6 | exact rS M7 | exact wS M7 | exact rS M8 | exact wS M8 | exact rS M9 | exact wS M9 | exact RdIn.nil | exact (fun w hw => hrK w (Cl.kept (by (first | exact fun _ h => h | exact keepOf (by (((repeat (first | exact List.Sublist.refl _ | exact List.nil_sublist _ | apply List.Sublist.cons_cons | apply List.Sublist.cons | exact List.sublist_append_right _ _ | exact List.sublist_append_left _ _ | apply List.Sublist.append_left | apply List.sublist_append_of_sublist_right)) <;> fail))))) w hw)))) .nil) | exact .cons (by (first | exact rS M0 | exact wS M0 | exact rS M1 | exact wS M1 | exact rS M2 | exact wS M2 | exact rS M3 | exact wS M3 | exact rS M4 | exact wS M4 | exact rS M5 | exact wS M5 | exact rS M6 | exact wS M6 | exact rS M7 | exact wS M7 | exact rS M8 | exact wS M8 | exact rS M9 | exact wS M9 | exact RdIn.nil | exact (fun w hw => hrK w (Cl.kept (by (first | exact fun _ h => h | exact keepOf (by (((repeat (first | exact List.Sublist.refl _ | exact List.nil_sublist _ | apply List.Sublist.cons_cons | apply List.Sublist.cons | exact List.sublist_append_right _ _ | exact List.sublist_append_left _ _ | apply List.Sublist.append_left | apply List.sublist_append_of_sublist_right)) <;> fail))))) w hw)))) (.cons (by (first | exact rS M0 | exact wS M0 | exact rS M1 | exact wS M1 | exact rS M2 | exact wS M2 | exact rS M3 | exact wS M3 | exact rS M4 | exact wS M4 | exact rS M5 | exact wS M5 | exact rS M6 | exact wS M6 | exact rS M7 | exact wS M7 | exact rS M8 | exact wS M8 | exact rS M9 | exact wS M9 | exact RdIn.nil | exact (fun w hw => hrK w (Cl.kept (by (first | exact fun _ h => h | exact keepOf (by (((repeat (first | exact List.Sublist.refl _ | exact List.nil_sublist _ | apply List.Sublist.cons_cons | apply List.Sublist.cons | exact List.sublist_append_right _ _ | exact List.sublist_append_left _ _ | apply List.Sublist.append_left | apply List.sublist_append_of_sublist_right)) <;> fail))))) w hw)))) (.cons (by (first | exact rS M0 | exact wS M0 | exact rS M1 | exact wS M1 | exact rS M2 | exact wS M2 | exact rS M3 | exact wS M3 | exact rS M4 | exact wS M4 | exact rS M5 | exact wS M5 | exact rS M6 | exact wS M6 | exact rS M7 | exact wS M7 | exact rS M8 | exact wS M8 | exact rS M9 | exact wS M9 | exact RdIn.nil | exact (fun w hw => hrK w (Cl.kept (by (first | exact fun _ h => h | exact keepOf (by (((repeat (first | exact List.Sublist.refl _ | exact List.nil_sublist _ | apply List.Sublist.cons_cons | apply List.Sublist.cons | exact List.sublist_append_right _ _ | exact List.sublist_append_left _ _ | apply List.Sublist.append_left | apply List.sublist_append_of_sublist_right)) <;> fail))))) w hw)))) .nil)))) (fun hg => w_Val hd0) .all ?_
    refine At.e rfl rfl rfl rfl .all (R.assign (.t rfl)) ?_
    refine At.nil ?_
    refine At.tN ?_
    refine At.seq ?_
    refine At.plain [(false, 0), (false, 1)] rfl ?_
    refine At.e rfl rfl rfl rfl .all (R.move (.t rfl)) ?_
    first | refine At.e rfl rfl rfl rfl .all (R.as (R.neq (.t rfl) .c) (fun _ => congrArg Value.bool (congrArg Bool.not (decide_eq_true (by first | rfl | omega))))) ?_ | refine At.e rfl rfl rfl rfl .all (R.as (R.neq (.t rfl) .c) (fun _ => congrArg Value.bool (congrArg Bool.not (decide_eq_false (by omega))))) ?_ | refine At.e rfl rfl rfl rfl .all (R.neq (.t rfl) .c) ?_
    refine At.nil ?_
    refine At.tN ?_
    first | refine At.condD (.t rfl) (fun c2 => ?_) (fun c2 => ?_) | refine At.condN (.t rfl) (fun c2 => ?_) (fun c2 => ?_) | refine At.cond (.t rfl) (fun c2 => ?_) (fun c2 => ?_)
    · have hv1 : ¬ dd % 2097152 - 1 = -1 := (by simpa using c2)
      refine At.plain [(false, 0), (false, 1), (false, 2), (false, 3), (false, 4)] rfl ?_
      refine At.e rfl rfl rfl rfl .all (R.move (.t rfl)) ?_
      first | refine At.e rfl rfl rfl rfl .all (R.fieldAddr fo_50_1 (.t rfl)) ?_ | refine At.e rfl rfl rfl rfl .all (R.fieldRd fo_50_1 (.t rfl) (by (first | exact rS M0 | exact wS M0 | exact rS M1 | exact wS M1 | exact rS M2 | exact wS M2 | exact rS M3 | exact wS M3 | exact rS M4 | exact wS M4 | exact rS M5 | exact wS M5 | exact rS M6 | exact wS M6 | exact rS M7 | exact wS M7 | exact rS M8 | exact wS M8 | exact rS M9 | exact wS M9 | exact RdIn.nil | exact (fun w hw => hrK w (Cl.kept (by (first | exact fun _ h => h | exact keepOf (by (((repeat (first | exact List.Sublist.refl _ | exact List.nil_sublist _ | apply List.Sublist.cons_cons | apply List.Sublist.cons | exact List.sublist_append_right _ _ | exact List.sublist_append_left _ _ | apply List.Sublist.append_left | apply List.sublist_append_of_sublist_right)) <;> fail))))) w hw)))) (fun hg => (by first | omega | ((simp [-List.length_eq_zero_iff] at hg; omega)) | (simp only [List.length_append, List.length_cons, List.length_nil, List.length_take, List.length_drop]; omega)))) ?_
      first | refine At.st1 rfl rfl sz_4 (.t rfl) .c rfl rfl (.n U0) ⟨.all, ?_⟩
      first | refine At.e rfl rfl rfl rfl .all (R.fieldAddr fo_50_2 (.t rfl)) ?_ | refine At.e rfl rfl rfl rfl .all (R.fieldRd fo_50_2 (.t rfl) (by (first | exact rS M0 | exact wS M0 | exact rS M1 | exact wS M1 | exact rS M2 | exact wS M2 | exact rS M3 | exact wS M3 | exact rS M4 | exact wS M4 | exact rS M5 | exact wS M5 | exact rS M6 | exact wS M6 | exact rS M7 | exact wS M7 | exact rS M8 | exact wS M8 | exact rS M9 | exact wS M9 | exact RdIn.nil | exact (fun w hw => hrK w (Cl.kept (by (first | exact fun _ h => h | exact keepOf (by (((repeat (first | exact List.Sublist.refl _ | exact List.nil_sublist _ | apply List.Sublist.cons_cons | apply List.Sublist.cons | exact List.sublist_append_right _ _ | exact List.sublist_append_left _ _ | apply List.Sublist.append_left | apply List.sublist_append_of_sublist_right)) <;> fail))))) w hw)))) (fun hg => (by first | omega | ((simp [-List.length_eq_zero_iff] at hg; omega)) | (simp only [List.length_append, List.length_cons, List.length_nil, List.length_take, List.length_drop]; omega)))) ?_
      first | refine At.st1 rfl rfl sz_3 (.t rfl) (.t rfl) rfl rfl (.n U0) ⟨.all, ?_⟩
      refine At.nil ?_
      refine At.tN ?_
      refine At.seq ?_
      refine At.plain [(false, 0), (false, 1)] rfl ?_
      refine At.e rfl rfl rfl rfl .all (R.loadAgg (vs := [_, _, _, _, _, _]) Try.underlying50 rfl sz_50 (.t rfl) (by first | exact csS M0 ⟨rfl, rfl, rfl, rfl, rfl, rfl, trivial⟩ | exact csS M1 ⟨rfl, rfl, rfl, rfl, rfl, rfl, trivial⟩ | exact csS M2 ⟨rfl, rfl, rfl, rfl, rfl, rfl, trivial⟩ | exact csS M3 ⟨rfl, rfl, rfl, rfl, rfl, rfl, trivial⟩ | exact csS M4 ⟨rfl, rfl, rfl, rfl, rfl, rfl, trivial⟩ | exact csS M5 ⟨rfl, rfl, rfl, rfl, rfl, rfl, trivial⟩ | exact csS M6 ⟨rfl, rfl, rfl, rfl, rfl, rfl, trivial⟩ | exact csS M7 ⟨rfl, rfl, rfl, rfl, rfl, rfl, trivial⟩)) ?_
      first | refine At.stN rfl rfl sz_50 (.t rfl) (.t rfl) rfl rfl rfl (.n U5) ⟨.all, ?_⟩
      refine At.nil ?_
      refine At.tN ?_
      refine At.ret ?_
      exact At.finalM hdf rfl (by first | exact .here | exact .there .here | exact .there (.there .here) | exact .there (.there (.there .here)) | exact .there (.there (.there (.there .here)))) (.a (vs := [_, _, _, _, _, _]) Try.underlying50 rfl sz_50 rfl (csS M6 ⟨rfl, rfl, rfl, rfl, rfl, rfl, trivial⟩)) (List.nil_sublist _) (⟨by unfold ofA; first | (rw [hnone]; done) | (rw [hnone]; rfl) | (rw [hsome]; simp only [hv1]; rfl) | (rw [hsome]; simp [hv1]), rfl, rfl⟩)
    · have hv1 : dd % 2097152 - 1 = -1 := (by simpa using c2)
      refine At.skip ?_
      refine At.tN ?_
      refine At.seq ?_
      refine At.plain [(false, 0), (false, 1)] rfl ?_
      refine At.e rfl rfl rfl rfl .all (R.loadAgg (vs := [_, _, _, _, _, _]) Try.underlying50 rfl sz_50 (.t rfl) (by first | exact csS M0 ⟨rfl, rfl, rfl, rfl, rfl, rfl, trivial⟩ | exact csS M1 ⟨rfl, rfl, rfl, rfl, rfl, rfl, trivial⟩ | exact csS M2 ⟨rfl, rfl, rfl, rfl, rfl, rfl, trivial⟩ | exact csS M3 ⟨rfl, rfl, rfl, rfl, rfl, rfl, trivial⟩ | exact csS M4 ⟨rfl, rfl, rfl, rfl, rfl, rfl, trivial⟩ | exact csS M5 ⟨rfl, rfl, rfl, rfl, rfl, rfl, trivial⟩ | exact csS M6 ⟨rfl, rfl, rfl, rfl, rfl, rfl, trivial⟩ | exact csS M7 ⟨rfl, rfl, rfl, rfl, rfl, rfl, trivial⟩)) ?_
      first | refine At.stN rfl rfl sz_50 (.t rfl) (.t rfl) rfl rfl rfl (.n U5) ⟨.all, ?_⟩
      refine At.nil ?_
      refine At.tN ?_
      refine At.ret ?_
      exact At.finalM hdf rfl (by first | exact .here | exact .there .here | exact .there (.there .here) | exact .there (.there (.there .here)) | exact .there (.there (.there (.there .here)))) (.a (vs := [_, _, _, _, _, _]) Try.underlying50 rfl sz_50 rfl (csS M6 ⟨rfl, rfl, rfl, rfl, rfl, rfl, trivial⟩)) (List.nil_sublist _) (⟨by unfold ofA; first | (rw [hnone]; done) | (rw [hnone]; rfl) | (rw [hsome]; simp only [hv1]; rfl) | (rw [hsome]; simp [hv1]), rfl, rfl⟩)

end Go.Proofs.Ytimclnhklaldfaa
