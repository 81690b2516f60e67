/- The verifier's own engine, fourth part: loops; slices that are read; rows that the call owns. -/
import Derived.Test.YtimclnhklaldfaaEngC
import Derived.Maps.AppendAt
import Derived.Deep.LoopGhost
namespace Go.Proofs.Ytimclnhklaldfaa
open Go Go.RowKit
set_option linter.unusedSectionVars false
variable [Df]

/-! ### Loops -/
theorem look_sub {l' : Fr} : ∀ {l : Fr}, (∀ p ∈ l, look l' p.1 = some p.2) → ∀ t v, look l t = some v → look l' t = some v
  | [], _, t, v, h => by cases h
  | (k, x) :: l, hp, t, v, h => by
    simp only [look] at h
    split at h
    · rename_i e; subst e; injection h with h; subst h; exact hp _ List.mem_cons_self
    · exact look_sub (fun p hq => hp p (List.mem_cons_of_mem _ hq)) t v h
/-- Each of these slots is known so in another list. -/
inductive Sub (l' : Fr) : Fr → Prop
  | nil : Sub l' []
  | cons {k : Nat} {x : Bool × Value} {l : Fr} : look l' k = some x → Sub l' l → Sub l' ((k, x) :: l)
theorem Sub.look {l' l : Fr} (h : Sub l' l) : ∀ t v, Go.Proofs.Ytimclnhklaldfaa.look l t = some v → Go.Proofs.Ytimclnhklaldfaa.look l' t = some v := by
  refine look_sub ?_
  induction h with
  | nil => intro p hp; cases hp
  | cons h1 _ ih =>
    intro p hp
    rcases List.mem_cons.1 hp with rfl | hp
    · exact h1
    · exact ih p hp

section
variable {P : Program} {w0 : World} {n : Nat} {S N H : Hp} {l : Fr} {Q : Exit → Act → World → Prop}

theorem At.sub {l' : Fr} {N' : Hp} {X : Act → World → Prop} (hl : Sub l l') (hN : N'.Sublist N) (h : At w0 n S l' N' H X) : At w0 n S l N H X := At.weak hl.look hN h

/-- What a round leaves. -/
def Again (w0 : World) (n : Nat) (S : Hp) {ι : Type} (I : ι → Prop) (μ : ι → Nat) (L : ι → Fr) (NN HH : ι → Hp) (i : ι) : Act → World → Prop :=
  fun a w => ∃ j, I j ∧ μ j < μ i ∧ Fk n (L j) a ∧ St w0 w S (NN j) (HH j)
theorem At.loop {ι : Type} {c : Code} (I : ι → Prop) (μ : ι → Nat) (L : ι → Fr) (NN HH : ι → Hp) (i0 : ι) (hI : I i0) (hl : Sub l (L i0)) (hN : (NN i0).Sublist N) (hH : HH i0 = H)
    (round : ∀ i, I i → At w0 n S (L i) (NN i) (HH i) (c.wp P (Exit.then (Again w0 n S I μ L NN HH i) Q))) : At w0 n S l N H ((Code.loop c).wp P Q) := fun a w ha hw => by
  subst hH
  refine wp_loop_ghost (fun m a w => ∃ i, I i ∧ μ i = m ∧ Fk n (L i) a ∧ St w0 w S (NN i) (HH i)) (μ i0) ⟨i0, hI, rfl, ha.weak hl.look, hw.forget hN⟩ ?_
  rintro m a w ⟨i, hi, rfl, ha, hw⟩
  refine Code.wp_mono ?_ (round i hi a w ha hw)
  rintro e a' w' h
  cases e with
  | normal => obtain ⟨j, hI, hj, h1, h2⟩ := h; exact ⟨μ j, hj, j, hI, rfl, h1, h2⟩
  | _ => exact h
theorem At.again {ι : Type} {I : ι → Prop} {μ : ι → Nat} {L : ι → Fr} {NN HH : ι → Hp} {i : ι} (j : ι) (hI : I j) (hμ : μ j < μ i) (hl : Sub l (L j)) (hN : (NN j).Sublist N) (hH : HH j = H) : At w0 n S l N H (Again w0 n S I μ L NN HH i) := fun a w ha hw => by
  subst hH
  exact ⟨j, hI, hμ, ha.weak hl.look, hw.forget hN⟩
end

/-! ### Slices that are read -/
/-- In each world of a class a slice reads so. -/
def RdIn (C : World → Prop) (v : Value) (sz m : Nat) (xs : List Value) : Prop := ∀ w, C w → RdIs w v sz m xs
theorem RdIn.rd {C : World → Prop} {v : Value} {sz m : Nat} {xs : List Value} (h : Holds C (.rd v sz m xs)) : RdIn C v sz m xs := h
theorem rdIs_row {w : World} {v : Value} {E sz m : Nat} {xs : List Value} (h : w.ownsRow 0 E sz v m xs) : RdIs w v sz m xs := by
  obtain ⟨hl, ⟨rfl, rfl⟩ | ⟨g, cap, cur, rfl, hb, hg, h1, h2, h3, h4⟩⟩ := h
  · exact ⟨none, 0, rfl, Nat.le_refl _, Nat.zero_le _, hl, fun h => absurd h (Nat.lt_irrefl _)⟩
  · refine ⟨some ⟨g, 0, none⟩, cap, rfl, h1, h2, hl, fun _ => ⟨g, 0, rfl, ?_, fun j u hu => ?_⟩⟩
    · rcases Nat.lt_or_ge g w.heap.size with h' | h'
      · exact h'
      · rw [Array.getElem?_eq_none h'] at hg; cases hg
    · refine cell_of_blk hg ?_
      rw [← h4, List.getElem?_take] at hu
      split at hu
      · simpa using hu
      · cases hu
theorem RdIn.row {C : World → Prop} {v : Value} {E sz m : Nat} {xs : List Value} (h : Holds C (.row v E sz m xs)) : RdIn C v sz m xs := fun w hw => rdIs_row (h w hw)
theorem RdIn.nil {C : World → Prop} {sz : Nat} : RdIn C (.slice none 0 0) sz 0 [] := fun _ _ => ⟨none, 0, rfl, Nat.le_refl _, Nat.zero_le _, by simp, fun h => absurd h (Nat.lt_irrefl _)⟩

/-- The address of a slice's cell. -/
def elemPtr (v : Value) (k : Nat) : Value := match v with
  | .slice (some a) _ _ => .pointer (some (a.add k))
  | _ => undef
/-- A cut of a slice. -/
def cutV (v : Value) (sz lo hi : Nat) : Value := match v with
  | .slice A _ cap => .slice (if cap = lo then A else A.map (·.add (lo * sz))) (hi - lo) (cap - lo)
  | v => v
theorem RdIn.cut {C : World → Prop} {v : Value} {sz m : Nat} {xs : List Value} (h : RdIn C v sz m xs) (lo hi : Nat) (h1 : lo ≤ hi) (h2 : hi ≤ m) : RdIn C (cutV v sz lo hi) sz (hi - lo) ((xs.drop (lo * sz)).take ((hi - lo) * sz)) := fun w hw => by
  obtain ⟨A, cap, rfl, h3, h4, h5, h6⟩ := h w hw
  refine ⟨_, cap - lo, rfl, by omega, by omega, ?_, fun hn => ?_⟩
  · rw [List.length_take, List.length_drop, h5, ← Nat.sub_mul]
    exact Nat.min_eq_left (Nat.mul_le_mul_right _ (by omega))
  · obtain ⟨b, o, rfl, hb, hc⟩ := h6 (by omega)
    have hne : ¬ cap = lo := by omega
    simp only [hne, if_false, Option.map_some, add_addr]
    refine ⟨b, o + lo * sz, rfl, hb, fun j u hu => ?_⟩
    rw [List.getElem?_take] at hu
    split at hu
    · rw [List.getElem?_drop] at hu
      rw [← hc _ u hu]; congr 2; omega
    · cases hu

section
variable {P : Program} {n : Nat} {l : Fr} {C : World → Prop} {d : Option Tmp} {ty : TypeId} {pos : String} {af : Array Edge} {gd : Option (Nat × Bool)} {g : Bool}
theorem R.lenRd {x : Operand} {T : TypeId} {E sz m : Nat} {v : Value} {xs : List Value} (hT : P.underlying T = some (.slice E)) (hx : Ev n l g x v) (hr : RdIn C v sz m xs) :
    RunsC P n l C g ⟨d, .call { callee := .builtin .len, args := #[x], argTypes := #[T] }, ty, pos, af, gd⟩ (.int .i64 m) := fun hg a w ha hw => by
  obtain ⟨A, cap, rfl, _⟩ := hr w hw
  exact R.lenSl hT hx hg a w ha hw
theorem R.indexRd {x y : Operand} {T E sz m : Nat} {k : IntKind} {j : Int} {v : Value} {xs : List Value} (hT : P.underlying T = some (.slice E)) (hs : (P.info? E).map (·.size) = some sz) (hx : Ev n l g x v) (hr : RdIn C v sz m xs) (hy : Ev n l g y (.int k j))
    (hj : g = true → 0 ≤ j ∧ j < m) : RunsC P n l C g ⟨d, .indexAddr T x y, ty, pos, af, gd⟩ (elemPtr v (j.toNat * sz)) := fun hg a w ha hw => by
  obtain ⟨A, cap, rfl, h1, h2, h3, h4⟩ := hr w hw
  obtain ⟨h5, h6⟩ := hj hg
  obtain ⟨b, o, rfl, hb, hc⟩ := h4 (by omega)
  have := R.indexSl (P := P) (C := C) (d := d) (ty := ty) (pos := pos) (af := af) (gd := gd) hT hs hx hy (fun _ => ⟨h5, h6⟩) hg a w ha hw
  simpa [elemPtr, add_addr] using this
theorem R.fieldRd {x : Operand} {s f off sz m k : Nat} {v : Value} {xs : List Value} (hf : fieldOff? P s f = some off) (hx : Ev n l g x (elemPtr v k)) (hr : RdIn C v sz m xs) (hm : g = true → 0 < m) :
    RunsC P n l C g ⟨d, .fieldAddr s x f, ty, pos, af, gd⟩ (elemPtr v (k + off)) := fun hg a w ha hw => by
  obtain ⟨A, cap, rfl, h1, h2, h3, h4⟩ := hr w hw
  obtain ⟨b, o, rfl, hb, hc⟩ := h4 (hm hg)
  have hx' : Ev n l g x (.pointer (some ⟨b, o + k, none⟩)) := by simpa [elemPtr, add_addr] using hx
  have := R.fieldAddr (P := P) (C := C) (d := d) (ty := ty) (pos := pos) (af := af) (gd := gd) hf hx' hg a w ha hw
  simpa [elemPtr, add_addr, Nat.add_assoc] using this
theorem R.loadRd {x : Operand} {T : TypeId} {D : TypeDesc} {sz m k : Nat} {v u : Value} {xs : List Value} (hT : P.underlying T = some D) (hD : plainD D = true) (hx : Ev n l g x (elemPtr v k)) (hr : RdIn C v sz m xs) (hu : g = true → xs[k]? = some u) :
    RunsC P n l C g ⟨d, .load T x, ty, pos, af, gd⟩ u := fun hg a w ha hw => by
  obtain ⟨A, cap, rfl, h1, h2, h3, h4⟩ := hr w hw
  have hm : 0 < m := by
    rcases Nat.eq_zero_or_pos m with h0 | h0
    · subst h0
      have : xs = [] := List.eq_nil_of_length_eq_zero (by simpa using h3)
      rw [this] at hu; simp at hu; rw [hu] at hg; cases hg
    · exact h0
  obtain ⟨b, o, rfl, hb, hc⟩ := h4 hm
  have hx' : Ev n l g x (.pointer (some ⟨b, o + k, none⟩)) := by simpa [elemPtr, add_addr] using hx
  exact R.load (C := fun w' => w' = w) hT hD hx' (fun w' e => by subst e; exact hc k u (hu hg)) hg a w ha rfl
theorem R.loadRdAgg {x : Operand} {T : TypeId} {D : TypeDesc} {sz m k : Nat} {v : Value} {us xs : List Value} (hT : P.underlying T = some D) (hD : plainD D = false) (hs : (P.info? T).map (·.size) = some us.length) (hx : Ev n l g x (elemPtr v k)) (hr : RdIn C v sz m xs) (hm : g = true → 0 < m)
    (hu : g = true → ∀ j u, us[j]? = some u → xs[k + j]? = some u) : RunsC P n l C g ⟨d, .load T x, ty, pos, af, gd⟩ (.agg us.toArray) := fun hg a w ha hw => by
  obtain ⟨A, cap, rfl, h1, h2, h3, h4⟩ := hr w hw
  obtain ⟨b, o, rfl, hb, hc⟩ := h4 (hm hg)
  have hx' : Ev n l g x (.pointer (some ⟨b, o + k, none⟩)) := by simpa [elemPtr, add_addr] using hx
  exact R.loadAgg (C := fun w' => w' = w) hT hD hs hx' (fun w' e j u hju => by subst e; rw [← hc (k + j) u (hu hg j u hju)]; congr 2; omega) hg a w ha rfl
end

/-! ### Rows that the call owns -/
theorem St.swapN {w0 w w' : World} {S N H N' : Hp} {e e' : Ent} (h : St w0 w S N H) (hu : UpL N e e' N') (hk : ∀ k, e'.key = some k → e.key = some k ∨ w.heap.size ≤ k) (he' : e'.holds w')
    (hos : w'.os = w.os) (htape : w'.tape = w.tape) (hout : w'.output = w.output) (hsz : w.heap.size ≤ w'.heap.size)
    (hoth : ∀ k, k < w.heap.size → some k ≠ e.key → w'.heap[k]? = w.heap[k]?) : St w0 w' S N' H := by
  obtain ⟨a, b, rfl, rfl⟩ := hu.form
  have hlt := keys_lt h.has
  have hm : e ∈ a ++ e :: b ++ H := by simp
  have hsplit : ∀ x : Ent, (keys (a ++ x :: b ++ H)).Perm (x.key.toList ++ keys (a ++ b ++ H)) := fun x => by
    simp only [keys_append]
    cases hx : x.key with
    | none => simp [keys, hx]
    | some k =>
      simp only [keys, List.filterMap_cons, hx, Option.toList_some, List.singleton_append, List.append_assoc]
      exact (List.perm_middle).trans (by simp)
  have hrest : ∀ k ∈ keys (a ++ b ++ H), k < w.heap.size ∧ some k ≠ e.key := fun k hkm => by
    refine ⟨hlt k ((hsplit e).symm.subset (List.mem_append_right _ hkm)), fun hke => ?_⟩
    have := (hsplit e).nodup_iff.1 h.nodup
    rw [← hke] at this
    simp only [Option.toList_some, List.singleton_append] at this
    exact (List.nodup_cons.1 this).1 hkm
  have hndr : (keys (a ++ b ++ H)).Nodup := by
    have := (hsplit e).nodup_iff.1 h.nodup
    exact (List.nodup_append.1 this).2.1
  have hkeep : ∀ x ∈ a ++ b ++ H, x.holds w' := fun x hx => by
    have hxw : x.holds w := h.has x (by simp only [List.mem_append, List.mem_cons] at hx ⊢; rcases hx with (hx | hx) | hx <;> simp [hx])
    exact Ent.keep hxw hsz fun k hxk => hoth k (Ent.lt hxw hxk) (hrest k (mem_keys hx hxk)).2
  refine ⟨hos.trans h.os, htape.trans h.tape, hout.trans h.output, Nat.le_trans h.size hsz, fun x hx => ?_, fun x hx => ?_, (hsplit e').nodup_iff.2 ?_, fun k hkS hkm => ?_, fun x hx k hxk => ?_, fun c hc hn => ?_⟩
  · simp only [List.mem_append, List.mem_cons] at hx
    rcases hx with (hx | rfl | hx) | hx
    · exact hkeep x (by simp [hx])
    · exact he'
    · exact hkeep x (by simp [hx])
    · exact hkeep x (by simp [hx])
  · refine Ent.keep (h.hasS x hx) hsz fun k hxk => hoth k (Ent.lt (h.hasS x hx) hxk) fun hke => ?_
    exact h.apart k (mem_keys hx hxk) (mem_keys hm hke.symm)
  · refine List.nodup_append.2 ⟨by cases e'.key <;> simp, hndr, fun k hk1 k2 hk2 hkk => ?_⟩
    subst hkk
    have hk3 : e'.key = some k := by cases hx : e'.key with
      | none => rw [hx] at hk1; simp at hk1
      | some y => rw [hx] at hk1; simp at hk1; rw [hk1]
    have h1 := hrest k hk2
    rcases hk k hk3 with h2 | h2
    · exact h1.2 h2.symm
    · omega
  · have h1 := (hsplit e').subset hkm
    rcases List.mem_append.1 h1 with h1 | h1
    · have hk3 : e'.key = some k := by cases hx : e'.key with
        | none => rw [hx] at h1; simp at h1
        | some y => rw [hx] at h1; simp at h1; rw [h1]
      rcases hk k hk3 with h2 | h2
      · exact h.apart k hkS (mem_keys hm h2)
      · have := keys_lt h.hasS k hkS; omega
    · exact h.apart k hkS ((hsplit e).symm.subset (List.mem_append_right _ h1))
  · simp only [List.mem_append, List.mem_cons] at hx
    rcases hx with hx | rfl | hx
    · exact h.fresh x (by simp [hx]) k hxk
    · rcases hk k hxk with h2 | h2
      · exact h.fresh e (by simp) k h2
      · exact Nat.le_trans h.size h2
    · exact h.fresh x (by simp [hx]) k hxk
  · rw [← h.old c hc hn]
    refine hoth c (Nat.lt_of_lt_of_le hc h.size) fun hke => ?_
    have := h.fresh e (by simp) c hke.symm
    omega

/-- A new entry, the world being as it was but for new blocks. -/
theorem St.addN {w0 w w' : World} {S N H : Hp} {e' : Ent} (h : St w0 w S N H) (hk : ∀ k, e'.key = some k → w.heap.size ≤ k) (he' : e'.holds w')
    (hos : w'.os = w.os) (htape : w'.tape = w.tape) (hout : w'.output = w.output) (hsz : w.heap.size ≤ w'.heap.size)
    (hoth : ∀ k, k < w.heap.size → w'.heap[k]? = w.heap[k]?) : St w0 w' S (e' :: N) H := by
  have hst : St w w' [] [e'] [] := by
    refine ⟨hos, htape, hout, hsz, by simpa using he', by simp, ?_, by simp [keys], by simpa using hk, fun b hb _ => hoth b hb⟩
    cases hx : e'.key <;> simp [keys, hx]
  exact h.pure hst

theorem run_append_rd {P : Program} {w : World} {t ty e : TypeId} {sz bytes : Nat} {i : TypeInfo} {z : Value} (ht : P.underlying t = some (.slice e)) (hi : P.info? e = some i) (hz : i.zero = some z)
    (hsize : i.size = sz) (hby : i.bytes = bytes) (hzs : z.cells.size = sz) (hsz : 0 < sz) {v u : Value} {m k : Nat} {xs news : List Value} (hown : w.ownsRow 0 e sz v m xs) (hr : RdIs w u sz k news) (h1 : ∀ x ∈ news, x.oneCell' = true)
    (h63 : m + k ≤ maxLen) (hbytes : (m + k) * bytes ≤ 140737488355328) :
    ∃ v' w', (Builtin.append_ #[t, t] ty #[v, u]).run P w = .ok v' w' ∧ w'.ownsRow 0 e sz v' (m + k) (xs ++ news) ∧ w.grownBy w' v.ownBlock ∧ (∀ b, v'.ownBlock = some b → v.ownBlock = some b ∨ w.heap.size ≤ b) := by
  obtain ⟨A, cap, rfl, h2, h3, h4, h5⟩ := hr
  cases A with
  | none =>
    have hk : k = 0 := by
      rcases Nat.eq_zero_or_pos k with h0 | h0
      · exact h0
      · obtain ⟨b, o, hA, _⟩ := h5 h0; cases hA
    subst hk
    have hn : news = [] := List.eq_nil_of_length_eq_zero (by simpa using h4)
    subst hn
    refine ⟨v, w, ?_, by simpa using hown, World.grownBy.refl w _, fun b hb => .inl hb⟩
    rcases hown.2 with ⟨rfl, rfl⟩ | ⟨g, cap', cur, rfl, _, _, hnc, _⟩
    · simp [Builtin.append_, run_underlying ht, sizeOf, typeInfo, hi, Builtin.lenOf, Builtin.firstCells]
    · simp [Builtin.append_, run_underlying ht, sizeOf, typeInfo, hi, Builtin.lenOf, Builtin.firstCells, hnc, storeCells]
  | some ad =>
    have hcells : ∀ j x, news[j]? = some x → w.cell? (ad.add j) = some x := fun j x hx => by
      rcases Nat.eq_zero_or_pos k with h0 | h0
      · subst h0
        have hn : news = [] := List.eq_nil_of_length_eq_zero (by simpa using h4)
        subst hn; simp at hx
      · obtain ⟨b, o, hA, _, hc⟩ := h5 h0
        injection hA with hA; subst hA
        rw [add_addr]; exact hc j x hx
    obtain ⟨v', w', hrun, ho, hg, _, hb⟩ := run_append_own_at (P := P) w 0 t ty e i z sz bytes ht hi hz hsize hby hzs hsz v m xs hown ad k cap news h4 hcells h1 h63 hbytes (Nat.zero_le _)
    refine ⟨v', w', hrun, ho, hg, fun b hvb => ?_⟩
    rcases hb with hb | hb
    · exact .inl (hb ▸ hvb)
    · rw [hb] at hvb; injection hvb with hvb; exact .inr (by omega)

/-- What append asks of an element type. -/
def elemTab (P : Program) (e : TypeId) : Option (Nat × Nat) :=
  match P.info? e with
  | some i => match i.zero with
    | some z => if z.cells.size = i.size ∧ 0 < i.size then some (i.size, i.bytes) else none
    | none => none
  | none => none
theorem elemTab_info {P : Program} {e : TypeId} {sz bytes : Nat} (h : elemTab P e = some (sz, bytes)) : ∃ i z, P.info? e = some i ∧ i.zero = some z ∧ i.size = sz ∧ i.bytes = bytes ∧ z.cells.size = sz ∧ 0 < sz := by
  unfold elemTab at h
  split at h
  · rename_i i hi
    split at h
    · rename_i z hz
      split at h
      · rename_i hc
        simp only [Option.some.injEq, Prod.mk.injEq] at h
        exact ⟨i, z, hi, hz, h.1, h.2, by omega, by omega⟩
      · cases h
    · cases h
  · cases h

section
variable {P : Program} {w0 : World} {n : Nat} {S N H : Hp} {l : Fr} {ops : Array Oper} {C : World → Prop} {K : Act → World → Prop} {r : List (Bool × Nat)} {i : Nat}

/-- append onto a row that the call owns. -/
theorem At.append {d : Nat} {x y : Operand} {t ty : TypeId} {pos : String} {af : Array Edge} {gd : Option (Nat × Bool)} {e sz bytes m k : Nat} {v u : Value} {xs news : List Value}
    (ho : ops[i]? = some ⟨some d, .call { callee := .builtin .append, args := #[x, y], argTypes := #[t, t] }, ty, pos, af, gd⟩) (hdn : Nat.blt d n = true)
    (hg : wantG ops l ⟨some d, .call { callee := .builtin .append, args := #[x, y], argTypes := #[t, t] }, ty, pos, af, gd⟩ = some true)
    (ht : P.underlying t = some (.slice e)) (he : elemTab P e = some (sz, bytes)) (hx : Ev n l true x v) (hy : Ev n l true y u) (hr : RdIn (fun w => St w0 w S N H) u sz k news) (h1 : ∀ x ∈ news, x.oneCell' = true)
    (hb : (m + k) * bytes ≤ 140737488355328 ∧ m + k ≤ 140737488355328) {N' : Value → Hp} (hu : ∀ v', UpL N (.row v e sz m xs) (.row v' e sz (m + k) (xs ++ news)) (N' v'))
    (h : ∀ v', Cl w0 S (N' v') H C ∧ At w0 n S ((d, true, v') :: l) (N' v') H (wpSch P ops C K r)) : At w0 n S l N H (wpSch P ops C K ((false, i) :: r)) :=
  At.eW (d := some d) ho hg fun a w ha hw => by
    obtain ⟨inf, z, h2, h3, h4, h5, h6, h7⟩ := elemTab_info he
    have hown : w.ownsRow 0 e sz v m xs := hw.has _ (List.mem_append_left _ (hu v).mem)
    obtain ⟨v', w', hrun, ho', hgr, hkey⟩ := run_append_rd (P := P) (ty := ty) ht h2 h3 h4 h5 h6 h7 hown (hr w hw) h1 (by simp only [maxLen]; omega) hb.1
    unfold Oper.wp
    have hrun' : (execOp a.eval ⟨some d, .call { callee := .builtin .append, args := #[x, y], argTypes := #[t, t] }, ty, pos, af, gd⟩).run P w = .ok (.value v') w' := by
      simp [execOp, resolve, invoke, builtin, hx rfl a ha, hy rfl a ha, hrun]
    rw [hrun', Oper.upon_value]
    have := hw.swapN (hu v') (fun b hb' => hkey b hb') (show (Ent.row v' e sz (m + k) (xs ++ news)).holds w' from ho') hgr.os hgr.tape hgr.output hgr.size (fun b hb' hne => hgr.block b hb' hne)
    exact ⟨(h v').1 _ this, (h v').2 _ _ (ha.put (by simpa using hdn) rfl) this⟩
/-- append onto nil. -/
theorem At.appendNil {d : Nat} {x y : Operand} {t ty : TypeId} {pos : String} {af : Array Edge} {gd : Option (Nat × Bool)} {e sz bytes k : Nat} {u : Value} {news : List Value}
    (ho : ops[i]? = some ⟨some d, .call { callee := .builtin .append, args := #[x, y], argTypes := #[t, t] }, ty, pos, af, gd⟩) (hdn : Nat.blt d n = true)
    (hg : wantG ops l ⟨some d, .call { callee := .builtin .append, args := #[x, y], argTypes := #[t, t] }, ty, pos, af, gd⟩ = some true)
    (ht : P.underlying t = some (.slice e)) (he : elemTab P e = some (sz, bytes)) (hx : Ev n l true x (.slice none 0 0)) (hy : Ev n l true y u) (hr : RdIn (fun w => St w0 w S N H) u sz k news) (h1 : ∀ x ∈ news, x.oneCell' = true)
    (hb : k * bytes ≤ 140737488355328 ∧ k ≤ 140737488355328)
    (h : ∀ v', Cl w0 S (.row v' e sz k news :: N) H C ∧ At w0 n S ((d, true, v') :: l) (.row v' e sz k news :: N) H (wpSch P ops C K r)) : At w0 n S l N H (wpSch P ops C K ((false, i) :: r)) :=
  At.eW (d := some d) ho hg fun a w ha hw => by
    obtain ⟨inf, z, h2, h3, h4, h5, h6, h7⟩ := elemTab_info he
    obtain ⟨v', w', hrun, ho', hgr, hkey⟩ := run_append_rd (P := P) (ty := ty) ht h2 h3 h4 h5 h6 h7 (World.ownsRow_nil w 0 e sz) (hr w hw) h1 (by simp only [maxLen]; omega) (by simpa using hb.1)
    unfold Oper.wp
    have hrun' : (execOp a.eval ⟨some d, .call { callee := .builtin .append, args := #[x, y], argTypes := #[t, t] }, ty, pos, af, gd⟩).run P w = .ok (.value v') w' := by
      simp [execOp, resolve, invoke, builtin, hx rfl a ha, hy rfl a ha, hrun]
    rw [hrun', Oper.upon_value]
    have he' : (Ent.row v' e sz k news).holds w' := by
      show w'.ownsRow 0 e sz v' k news
      simpa using ho'
    have := hw.addN (e' := .row v' e sz k news) (fun b hb' => (hkey b hb').resolve_left (by simp [Value.ownBlock])) he' hgr.os hgr.tape hgr.output hgr.size (fun b hb' => hgr.block b hb' (by simp [Value.ownBlock]))
    exact ⟨(h v').1 _ this, (h v').2 _ _ (ha.put (by simpa using hdn) rfl) this⟩
/-- A cut of a slice that is read. -/
theorem R.sliceRd {g : Bool} {d : Option Tmp} {x : Operand} {T ty : TypeId} {pos : String} {af : Array Edge} {gd : Option (Nat × Bool)} {e sz m lo hi : Nat} {v : Value} {xs : List Value} {ol oh : Option Operand} (hT : P.underlying T = some (.slice e)) (hs : (P.info? e).map (·.size) = some sz)
    (hx : Ev n l g x v) (hr : RdIn C v sz m xs) (hl : match ol with | none => lo = 0 | some o => Ev n l g o (.int .i64 lo)) (hh : match oh with | none => hi = m | some o => Ev n l g o (.int .i64 hi)) (hb : g = true → lo ≤ hi ∧ hi ≤ m) :
    RunsC P n l C g ⟨d, .slice T x ol oh none, ty, pos, af, gd⟩ (cutV v sz lo hi) := fun hg a w ha hw => by
  obtain ⟨A, cap, rfl, h1, h2, h3, h4⟩ := hr w hw
  obtain ⟨h5, h6⟩ := hb hg
  have e2 : hi ≤ cap := by omega
  cases ol with
  | none =>
    cases oh with
    | none => simp only at hl hh; subst hl hh; simp [execOp, hx.eq hg ha, Instr.sliceAt, Instr.slice, run_underlying hT, Instr.sliceBounds, run_sizeOf hs, cutV]
    | some o => simp only at hl hh; subst hl; simp [execOp, hx.eq hg ha, hh.eq hg ha, Instr.sliceAt, Instr.slice, run_underlying hT, Instr.sliceBounds, Instr.sliceBound, asIntOf, run_sizeOf hs, cutV, e2]
  | some o =>
    cases oh with
    | none => simp only at hl hh; subst hh; simp [execOp, hx.eq hg ha, hl.eq hg ha, Instr.sliceAt, Instr.slice, run_underlying hT, Instr.sliceBounds, Instr.sliceBound, asIntOf, run_sizeOf hs, cutV, h5]
    | some o' => simp only at hl hh; simp [execOp, hx.eq hg ha, hl.eq hg ha, hh.eq hg ha, Instr.sliceAt, Instr.slice, run_underlying hT, Instr.sliceBounds, Instr.sliceBound, asIntOf, run_sizeOf hs, cutV, h5, e2]
end
end Go.Proofs.Ytimclnhklaldfaa
