/- The verifier's own engine, second part: how what is known of memory goes on behind a new block, a store, a call. -/
import Derived.Test.YtimclnhklaldfaaEngA
namespace Go.Proofs.Ytimclnhklaldfaa
open Go Go.RowKit
set_option linter.unusedSectionVars false
variable [Df]

theorem blockOf_lt {w : World} {b i : Nat} {v : Value} (h : w.cell? ⟨b, i, none⟩ = some v) : b < w.heap.size := World.block_lt_of_cell? w _ h

/-- What holds of an entry hangs on its block alone. -/
theorem Ent.keep {w w' : World} {e : Ent} (h : e.holds w) (hs : w.heap.size ≤ w'.heap.size) (hk : ∀ k, e.key = some k → w'.heap[k]? = w.heap[k]?) : e.holds w' := by
  cases e with
  | blk b o => exact (hk b rfl).trans h
  | row v E sz n xs =>
    obtain ⟨hl, h | ⟨g, cap, cur, rfl, hb, hg, hr⟩⟩ := h
    · exact ⟨hl, .inl h⟩
    · exact ⟨hl, .inr ⟨g, cap, cur, rfl, hb, (hk g rfl).trans hg, hr⟩⟩
  | rd v sz n xs =>
    obtain ⟨A, cap, rfl, h1, h2, h3, h4⟩ := h
    refine ⟨A, cap, rfl, h1, h2, h3, fun hn => ?_⟩
    obtain ⟨b, o, rfl, hb, hc⟩ := h4 hn
    refine ⟨b, o, rfl, by omega, fun j u hu => ?_⟩
    have := hk b (by simp [Ent.key, Value.ownBlock]; omega)
    rw [← hc j u hu]
    simp [World.cell?, this]

theorem Ent.lt {w : World} {e : Ent} (h : e.holds w) {k : Nat} (hk : e.key = some k) : k < w.heap.size := by
  cases e with
  | blk b o =>
    injection hk with hk; subst hk
    rcases Nat.lt_or_ge b w.heap.size with h' | h'
    · exact h'
    · have h2 : w.heap[b]? = some o := h
      rw [Array.getElem?_eq_none h'] at h2; cases h2
  | row v E sz n xs => exact (World.ownsRow.lt h k hk).2
  | rd v sz n xs =>
    obtain ⟨A, cap, rfl, h1, h2, h3, h4⟩ := h
    simp only [Ent.key] at hk
    split at hk
    · cases hk
    · obtain ⟨b, o, rfl, hb, _⟩ := h4 (by omega)
      simp [Value.ownBlock] at hk
      omega

theorem St.refl {w : World} {S H : Hp} (h : ∀ e ∈ H, e.holds w) (hS : ∀ e ∈ S, e.holds w) (hn : (keys H).Nodup) (ha : ∀ k ∈ keys S, k ∉ keys H) : St w w S [] H :=
  ⟨rfl, rfl, rfl, Nat.le_refl _, by simpa using h, hS, by simpa using hn, by simpa using ha, by simp, fun _ _ _ => rfl⟩

theorem mem_keys {l : Hp} {e : Ent} {k : Nat} (he : e ∈ l) (hk : e.key = some k) : k ∈ keys l := List.mem_filterMap.2 ⟨e, he, hk⟩
theorem keys_append (a b : Hp) : keys (a ++ b) = keys a ++ keys b := List.filterMap_append
theorem keys_lt {w : World} {l : Hp} (h : ∀ e ∈ l, e.holds w) : ∀ k ∈ keys l, k < w.heap.size := fun k hk => by
  obtain ⟨e, he, hek⟩ := List.mem_filterMap.1 hk
  exact Ent.lt (h e he) hek

theorem St.drew {w0 w : World} {S N H : Hp} (h : St w0 w S N H) : St w0 w.drew S N H :=
  ⟨h.os, h.tape, h.output, h.size, fun e he => Ent.keep (h.has e he) (Nat.le_refl _) (fun _ _ => rfl), fun e he => Ent.keep (h.hasS e he) (Nat.le_refl _) (fun _ _ => rfl), h.nodup, h.apart, h.fresh, h.old⟩

theorem heap_alloc_lt (w : World) (o : Obj) {k : Nat} (hk : k < w.heap.size) : (w.alloc o).heap[k]? = w.heap[k]? := by
  unfold World.alloc; rw [Array.getElem?_push]; simp; omega
theorem heap_alloc_new' (w : World) (o : Obj) : (w.alloc o).heap[w.heap.size]? = some o := by unfold World.alloc; simp

theorem St.alloc {w0 w : World} {S N H : Hp} (h : St w0 w S N H) (o : Obj) : St w0 (w.alloc o) S (.blk w.heap.size o :: N) H := by
  have hlt := keys_lt h.has
  refine ⟨h.os, h.tape, h.output, by rw [World.size_alloc]; exact Nat.le_succ_of_le h.size, fun e he => ?_, fun e he => ?_, ?_, fun k hk => ?_, fun e he k hk => ?_, fun b hb hn => ?_⟩
  · rcases List.mem_cons.1 he with rfl | he
    · exact heap_alloc_new' w o
    · exact Ent.keep (h.has e he) (by rw [World.size_alloc]; exact Nat.le_succ _) fun k hk => heap_alloc_lt w o (hlt k (mem_keys he hk))
  · exact Ent.keep (h.hasS e he) (by rw [World.size_alloc]; exact Nat.le_succ _) fun k hk => heap_alloc_lt w o (Ent.lt (h.hasS e he) hk)
  · show (w.heap.size :: keys (N ++ H)).Nodup
    exact List.nodup_cons.2 ⟨fun hk => Nat.lt_irrefl _ (hlt _ hk), h.nodup⟩
  · show k ∉ w.heap.size :: keys (N ++ H)
    intro hm
    rcases List.mem_cons.1 hm with rfl | hm
    · exact Nat.lt_irrefl _ (keys_lt h.hasS _ hk)
    · exact h.apart k hk hm
  · rcases List.mem_cons.1 he with rfl | he
    · injection hk with hk; subst hk; exact h.size
    · exact h.fresh e he k hk
  · rw [heap_alloc_lt w o (Nat.lt_of_lt_of_le hb h.size)]; exact h.old b hb hn

/-- One entry in a list is another one. -/
inductive UpL : Hp → Ent → Ent → Hp → Prop
  | here {l : Hp} {e e' : Ent} : UpL (e :: l) e e' (e' :: l)
  | there {l l' : Hp} {x e e' : Ent} : UpL l e e' l' → UpL (x :: l) e e' (x :: l')
inductive Up : Hp → Hp → Ent → Ent → Hp → Hp → Prop
  | n {N H N' : Hp} {e e' : Ent} : UpL N e e' N' → Up N H e e' N' H
  | h {N H H' : Hp} {e e' : Ent} : UpL H e e' H' → Up N H e e' N H'

theorem UpL.mem {l l' : Hp} {e e' : Ent} (h : UpL l e e' l') : e ∈ l := by
  induction h with
  | here => exact List.mem_cons_self
  | there _ ih => exact List.mem_cons_of_mem _ ih
theorem UpL.form {l l' : Hp} {e e' : Ent} (h : UpL l e e' l') : ∃ a b, l = a ++ e :: b ∧ l' = a ++ e' :: b := by
  induction h with
  | here => exact ⟨[], _, rfl, rfl⟩
  | @there _ _ x _ _ _ ih => obtain ⟨a, b, rfl, rfl⟩ := ih; exact ⟨x :: a, b, rfl, rfl⟩

/-- An entry of the same key in the place of one. -/
theorem St.upd {w0 w w' : World} {S N H N' H' : Hp} {e e' : Ent} (h : St w0 w S N H) (hu : Up N H e e' N' H') (hk : e'.key = e.key) (he' : e'.holds w')
    (hos : w'.os = w.os) (htape : w'.tape = w.tape) (hout : w'.output = w.output) (hsz : w.heap.size ≤ w'.heap.size)
    (hoth : ∀ k, k < w.heap.size → some k ≠ e.key → w'.heap[k]? = w.heap[k]?) : St w0 w' S N' H' := by
  have key : ∀ {l l' : Hp}, UpL l e e' l' → keys l' = keys l := fun hl => by
    obtain ⟨a, b, rfl, rfl⟩ := hl.form
    simp [keys, List.filterMap_append, List.filterMap_cons, hk]
  have hN : keys N' = keys N := by cases hu with | n hl => exact key hl | h hl => rfl
  have hH : keys H' = keys H := by cases hu with | n hl => rfl | h hl => exact key hl
  have hm : e ∈ N ++ H := by cases hu with | n hl => exact List.mem_append_left _ hl.mem | h hl => exact List.mem_append_right _ hl.mem
  have hNH : keys (N' ++ H') = keys (N ++ H) := by rw [keys_append, keys_append, hN, hH]
  -- every other entry has another key
  have hsplit : ∃ a b, N ++ H = a ++ e :: b ∧ N' ++ H' = a ++ e' :: b := by
    cases hu with
    | n hl => obtain ⟨a, b, rfl, rfl⟩ := hl.form; exact ⟨a, b ++ H, by simp, by simp⟩
    | h hl => obtain ⟨a, b, rfl, rfl⟩ := hl.form; exact ⟨N ++ a, b, by simp, by simp⟩
  obtain ⟨a, b, h1, h2⟩ := hsplit
  have hkeep : ∀ x ∈ a ++ b, x.holds w' := fun x hx => by
    have hxw : x.holds w := h.has x (by rw [h1]; rcases List.mem_append.1 hx with hx | hx <;> simp [hx])
    refine Ent.keep hxw hsz fun k hxk => hoth k (Ent.lt hxw hxk) fun hke => ?_
    have hnd := h.nodup
    rw [h1, keys_append] at hnd
    have hek : keys (e :: b) = k :: keys b := by simp [keys, ← hke]
    rw [hek] at hnd
    rcases List.mem_append.1 hx with hx | hx
    · exact (List.nodup_append.1 hnd).2.2 k (mem_keys hx hxk) k List.mem_cons_self rfl
    · exact (List.nodup_cons.1 (List.nodup_append.1 hnd).2.1).1 (mem_keys hx hxk)
  refine ⟨hos.trans h.os, htape.trans h.tape, hout.trans h.output, Nat.le_trans h.size hsz, fun x hx => ?_, fun x hx => ?_, by rw [hNH]; exact h.nodup, fun k hkS => by rw [hNH]; exact h.apart k hkS, fun x hx k hxk => ?_, fun c hc hn => ?_⟩
  · rw [h2] at hx
    rcases List.mem_append.1 hx with hx | hx
    · exact hkeep x (List.mem_append_left _ hx)
    · rcases List.mem_cons.1 hx with rfl | hx
      · exact he'
      · exact hkeep x (List.mem_append_right _ hx)
  · refine Ent.keep (h.hasS x hx) hsz fun k hxk => hoth k (Ent.lt (h.hasS x hx) hxk) fun hke => ?_
    exact h.apart k (mem_keys hx hxk) (mem_keys hm hke.symm)
  · have : k ∈ keys N := by rw [← hN]; exact mem_keys hx hxk
    obtain ⟨y, hy, hyk⟩ := List.mem_filterMap.1 this
    exact h.fresh y hy k hyk
  · rw [hH] at hn
    rw [← h.old c hc hn]
    refine hoth c (Nat.lt_of_lt_of_le hc h.size) fun hke => ?_
    rcases List.mem_append.1 hm with hm | hm
    · exact absurd (h.fresh e hm c hke.symm) (by omega)
    · exact hn (mem_keys hm hke.symm)

theorem heap_setCell_same {w : World} {b i : Nat} {cs : Array Value} {T : TypeId} {fz : Nat × Nat} (h : w.heap[b]? = some (.cells cs T fz)) (v : Value) :
    (w.setCell ⟨b, i, none⟩ v).heap[b]? = some (.cells (cs.setIfInBounds i v) T fz) := by
  simp [World.setCell, Array.getElem?_modify, h]
theorem heap_setCell_ne {w : World} {b i k : Nat} (v : Value) (h : k ≠ b) : (w.setCell ⟨b, i, none⟩ v).heap[k]? = w.heap[k]? := by
  simp only [World.setCell, Array.getElem?_modify]
  split
  · rename_i e; exact absurd e.symm h
  · rfl

theorem St.setCell {w0 w : World} {S N H N' H' : Hp} {b i : Nat} {cs : Array Value} {T : TypeId} {fz : Nat × Nat} {v : Value} (h : St w0 w S N H)
    (hu : Up N H (.blk b (.cells cs T fz)) (.blk b (.cells (cs.setIfInBounds i v) T fz)) N' H') : St w0 (w.setCell ⟨b, i, none⟩ v) S N' H' := by
  have hm : Ent.blk b (.cells cs T fz) ∈ N ++ H := by cases hu with | n hl => exact List.mem_append_left _ hl.mem | h hl => exact List.mem_append_right _ hl.mem
  refine h.upd hu rfl (heap_setCell_same (h.has _ hm) v) rfl rfl rfl (by simp [World.setCell]) fun k _ hk => heap_setCell_ne v fun e => hk (by rw [e]; rfl)

/-- A call that leaves all that was as it was. -/
theorem St.pure {w0 w w' : World} {S S' N H N' : Hp} (h : St w0 w S N H) (h' : St w w' S' N' []) : St w0 w' S (N' ++ N) H := by
  have hkeep : ∀ e : Ent, e.holds w → e.holds w' := fun e he => Ent.keep he h'.size fun k hk => h'.old k (Ent.lt he hk) (by simp [keys])
  have hge : ∀ k ∈ keys N', w.heap.size ≤ k := fun k hk => by
    obtain ⟨e, he, hek⟩ := List.mem_filterMap.1 hk
    exact h'.fresh e he k hek
  have hnd : (keys N').Nodup := by have := h'.nodup; simpa using this
  refine ⟨h'.os.trans h.os, h'.tape.trans h.tape, h'.output.trans h.output, Nat.le_trans h.size h'.size, fun e he => ?_, fun e he => hkeep e (h.hasS e he), ?_, fun k hk => ?_, fun e he k hk => ?_, fun b hb hn => ?_⟩
  · rw [List.append_assoc] at he
    rcases List.mem_append.1 he with he | he
    · exact h'.has e (by simpa using he)
    · exact hkeep e (h.has e he)
  · rw [List.append_assoc, keys_append]
    refine List.nodup_append.2 ⟨hnd, h.nodup, fun a ha b hb => ?_⟩
    have := keys_lt h.has b hb
    have := hge a ha
    omega
  · rw [List.append_assoc, keys_append]
    intro hm
    rcases List.mem_append.1 hm with hm | hm
    · have := hge k hm; have := keys_lt h.hasS k hk; omega
    · exact h.apart k hk hm
  · rcases List.mem_append.1 he with he | he
    · exact Nat.le_trans h.size (h'.fresh e he k hk)
    · exact h.fresh e he k hk
  · rw [h'.old b (Nat.lt_of_lt_of_le hb h.size) (by simp [keys])]
    exact h.old b hb hn

/-- New blocks may be forgotten. -/
theorem St.forget {w0 w : World} {S N N' H : Hp} (h : St w0 w S N H) (hs : N'.Sublist N) : St w0 w S N' H := by
  have hsub : (N' ++ H).Sublist (N ++ H) := hs.append (List.Sublist.refl H)
  have hk : (keys (N' ++ H)).Sublist (keys (N ++ H)) := hsub.filterMap _
  exact ⟨h.os, h.tape, h.output, h.size, fun e he => h.has e (hsub.subset he), h.hasS, hk.nodup h.nodup, fun k hkS hm => h.apart k hkS (hk.subset hm), fun e he => h.fresh e (hs.subset he), h.old⟩

theorem St.below {w0 w : World} {S N : Hp} (h : St w0 w S N []) : Below w0.heap.size w0 w :=
  ⟨h.os, h.tape, h.output, h.size, fun b hb => h.old b hb (by simp [keys])⟩

end Go.Proofs.Ytimclnhklaldfaa
