/- The verifier's own engine, eleventh part: calls that write several of the caller's entries. -/
import Derived.Test.YtimclnhklaldfaaEngJ
namespace Go.Proofs.Ytimclnhklaldfaa
open Go Go.RowKit
set_option linter.unusedSectionVars false
variable [Df]
set_option linter.unusedVariables false
/-- Some entries of a list, in their order, are others. -/
inductive UpsL : Hp → Hp → Hp → Hp → Prop
  | nil {l : Hp} : UpsL l [] [] l
  | take {l A B l' : Hp} {a b : Ent} : UpsL l A B l' → UpsL (a :: l) (a :: A) (b :: B) (b :: l')
  | skip {l A B l' : Hp} {x : Ent} : UpsL l A B l' → UpsL (x :: l) A B (x :: l')
theorem UpsL.form {l A B l' : Hp} (h : UpsL l A B l') : ∃ R, l.Perm (A ++ R) ∧ l'.Perm (B ++ R) := by
  induction h with
  | nil => exact ⟨_, .refl _, .refl _⟩
  | take _ ih => obtain ⟨R, h1, h2⟩ := ih; exact ⟨R, h1.cons _, h2.cons _⟩
  | @skip _ _ _ _ x _ ih => obtain ⟨R, h1, h2⟩ := ih; exact ⟨x :: R, (h1.cons x).trans List.perm_middle.symm, (h2.cons x).trans List.perm_middle.symm⟩
inductive Ups : Hp → Hp → Hp → Hp → Hp → Hp → Prop
  | n {N H A B N' : Hp} : UpsL N A B N' → Ups N H A B N' H
  | h {N H A B H' : Hp} : UpsL H A B H' → Ups N H A B N H'
section
variable {w0 w w' : World} {S S' N H N1 H1 N' A B R : Hp}
theorem keys_perm {a b : Hp} (h : a.Perm b) : (keys a).Perm (keys b) := h.filterMap _
theorem St.callMid (h : St w0 w S N H) {T : Hp} (hp : (N ++ H).Perm (A ++ R)) (hT : (N' ++ T).Perm (N' ++ (B ++ R))) (hk : keys B = keys A) (h' : St w w' S' N' B) :
    (∀ e ∈ N' ++ T, e.holds w') ∧ (∀ e ∈ S, e.holds w') ∧ (keys (N' ++ T)).Nodup ∧ (∀ k ∈ keys S, k ∉ keys (N' ++ T)) ∧ (∀ k, k < w.heap.size → k ∉ keys A → w'.heap[k]? = w.heap[k]?) ∧ (∀ k ∈ keys N', w.heap.size ≤ k) := by
  have hold : ∀ k, k < w.heap.size → k ∉ keys A → w'.heap[k]? = w.heap[k]? := fun k hk1 hk2 => h'.old k hk1 (by rw [hk]; exact hk2)
  have hlt := keys_lt h.has
  have hge : ∀ k ∈ keys N', w.heap.size ≤ k := fun k hk => by
    obtain ⟨x, hx, hxk⟩ := List.mem_filterMap.1 hk
    exact h'.fresh x hx k hxk
  have hnd : (keys (A ++ R)).Nodup := (keys_perm hp).nodup_iff.1 h.nodup
  rw [keys_append] at hnd
  have hmem : ∀ k, k ∈ keys (N ++ H) ↔ k ∈ keys A ∨ k ∈ keys R := fun k => by rw [(keys_perm hp).mem_iff, keys_append, List.mem_append]
  have hR : ∀ e ∈ R, e.holds w' := fun e he => by
    have h1 := h.has e (hp.mem_iff.2 (List.mem_append_right _ he))
    refine Ent.keep h1 h'.size fun k hk2 => hold k (Ent.lt h1 hk2) fun hA => ?_
    exact (List.nodup_append.1 hnd).2.2 k hA k (mem_keys he hk2) rfl
  have hB : ∀ e ∈ N' ++ B, e.holds w' := h'.has
  refine ⟨fun e he => ?_, fun e he => ?_, ?_, fun k hkS hm => ?_, hold, hge⟩
  · rcases List.mem_append.1 (hT.mem_iff.1 he) with he | he
    · exact hB e (List.mem_append_left _ he)
    · rcases List.mem_append.1 he with he | he
      · exact hB e (List.mem_append_right _ he)
      · exact hR e he
  · have h1 := h.hasS e he
    refine Ent.keep h1 h'.size fun k hk2 => hold k (Ent.lt h1 hk2) fun hA => ?_
    exact h.apart k (mem_keys he hk2) ((hmem k).2 (.inl hA))
  · refine (keys_perm hT).nodup_iff.2 ?_
    rw [keys_append, keys_append, hk]
    have hN' : (keys N').Nodup := by
      have := h'.nodup
      rw [keys_append] at this
      exact (List.nodup_append.1 this).1
    refine List.nodup_append.2 ⟨hN', hnd, fun a ha b hb => ?_⟩
    have h1 := hge a ha
    have h2 := hlt b ((hmem b).2 (List.mem_append.1 hb))
    omega
  · rw [(keys_perm hT).mem_iff, keys_append, keys_append, hk] at hm
    rcases List.mem_append.1 hm with hm | hm
    · have := hge k hm; have := keys_lt h.hasS k hkS; omega
    · exact h.apart k hkS ((hmem k).2 (List.mem_append.1 hm))
theorem St.callN (h : St w0 w S N H) (hp : N.Perm (A ++ R)) (hp' : N1.Perm (B ++ R)) (hk : keys B = keys A) (h' : St w w' S' N' B) : St w0 w' S (N' ++ N1) H := by
  have hp2 : (N ++ H).Perm (A ++ (R ++ H)) := by rw [← List.append_assoc]; exact hp.append_right H
  have hT : (N' ++ (N1 ++ H)).Perm (N' ++ (B ++ (R ++ H))) := by rw [← List.append_assoc B]; exact (hp'.append_right H).append_left N'
  obtain ⟨h1, h2, h3, h4, h5, h6⟩ := h.callMid hp2 hT hk h'
  refine ⟨h'.os.trans h.os, h'.tape.trans h.tape, h'.output.trans h.output, Nat.le_trans h.size h'.size, by rw [List.append_assoc]; exact h1, h2, by rw [List.append_assoc]; exact h3, by rw [List.append_assoc]; exact h4, fun e he k hk1 => ?_, fun b hb hn => ?_⟩
  · rcases List.mem_append.1 he with he | he
    · exact Nat.le_trans h.size (h'.fresh e he k hk1)
    · have h7 : k ∈ keys N := by
        rw [(keys_perm hp).mem_iff, keys_append, ← hk, ← keys_append, ← (keys_perm hp').mem_iff]
        exact mem_keys he hk1
      obtain ⟨y, hy, hyk⟩ := List.mem_filterMap.1 h7
      exact h.fresh y hy k hyk
  · rw [← h.old b hb hn]
    refine h5 b (Nat.lt_of_lt_of_le hb h.size) fun hA => ?_
    have h7 : b ∈ keys N := by rw [(keys_perm hp).mem_iff, keys_append]; exact List.mem_append_left _ hA
    obtain ⟨y, hy, hyk⟩ := List.mem_filterMap.1 h7
    have := h.fresh y hy b hyk
    omega
theorem St.callO (h : St w0 w S N H) (hp : H.Perm (A ++ R)) (hp' : H1.Perm (B ++ R)) (hk : keys B = keys A) (h' : St w w' S' N' B) : St w0 w' S (N' ++ N) H1 := by
  have hp2 : (N ++ H).Perm (A ++ (R ++ N)) := by rw [← List.append_assoc]; exact List.perm_append_comm.trans (hp.append_right N)
  have hT : (N' ++ (N ++ H1)).Perm (N' ++ (B ++ (R ++ N))) := by rw [← List.append_assoc B]; exact (List.perm_append_comm.trans (hp'.append_right N)).append_left N'
  obtain ⟨h1, h2, h3, h4, h5, h6⟩ := h.callMid hp2 hT hk h'
  refine ⟨h'.os.trans h.os, h'.tape.trans h.tape, h'.output.trans h.output, Nat.le_trans h.size h'.size, by rw [List.append_assoc]; exact h1, h2, by rw [List.append_assoc]; exact h3, by rw [List.append_assoc]; exact h4, fun e he k hk1 => ?_, fun b hb hn => ?_⟩
  · rcases List.mem_append.1 he with he | he
    · exact Nat.le_trans h.size (h'.fresh e he k hk1)
    · exact h.fresh e he k hk1
  · have hkk : ∀ k, k ∈ keys H1 ↔ k ∈ keys H := fun k => by rw [(keys_perm hp').mem_iff, (keys_perm hp).mem_iff, keys_append, keys_append, hk]
    have hbH : b ∉ keys H := fun hm => hn ((hkk b).2 hm)
    rw [← h.old b hb hbH]
    refine h5 b (Nat.lt_of_lt_of_le hb h.size) fun hA => hbH ?_
    rw [(keys_perm hp).mem_iff, keys_append]; exact List.mem_append_left _ hA
theorem St.callUps (h : St w0 w S N H) (hu : Ups N H A B N1 H1) (hk : keys B = keys A) (h' : St w w' S' N' B) : St w0 w' S (N' ++ N1) H1 := by
  cases hu with
  | n hl => obtain ⟨R, h1, h2⟩ := hl.form; exact h.callN h1 h2 hk h'
  | h hl => obtain ⟨R, h1, h2⟩ := hl.form; exact h.callO h1 h2 hk h'
theorem Ups.mem (hu : Ups N H A B N1 H1) : ∀ e ∈ A, e ∈ N ++ H := fun e he => by
  cases hu with
  | n hl => obtain ⟨R, h1, _⟩ := hl.form; exact List.mem_append_left _ (h1.mem_iff.2 (List.mem_append_left _ he))
  | h hl => obtain ⟨R, h1, _⟩ := hl.form; exact List.mem_append_right _ (h1.mem_iff.2 (List.mem_append_left _ he))
theorem Ups.nodup (h : St w0 w S N H) (hu : Ups N H A B N1 H1) : (keys A).Nodup := by
  have hn := h.nodup
  rw [keys_append] at hn
  cases hu with
  | n hl => obtain ⟨R, h1, _⟩ := hl.form; have := (keys_perm h1).nodup_iff.1 (List.nodup_append.1 hn).1; rw [keys_append] at this; exact (List.nodup_append.1 this).1
  | h hl => obtain ⟨R, h1, _⟩ := hl.form; have := (keys_perm h1).nodup_iff.1 (List.nodup_append.1 hn).2.1; rw [keys_append] at this; exact (List.nodup_append.1 this).1
end
/-- What is read lies apart from what is written. -/
def Aprt (w0 : World) (S N H S' A : Hp) : Prop := ∀ w, St w0 w S N H → ∀ k ∈ keys S', k ∉ keys A
theorem Aprt.nil {w0 : World} {S N H A : Hp} : Aprt w0 S N H [] A := fun _ _ _ h => (List.not_mem_nil h).elim
theorem Aprt.nh {w0 : World} {S N H S' A : Hp} (h1 : ∀ e ∈ S', e ∈ N) (h2 : ∀ e ∈ A, e ∈ H) : Aprt w0 S N H S' A := fun w hw k hk hA => by
  obtain ⟨x, hx, hxk⟩ := List.mem_filterMap.1 hk
  obtain ⟨y, hy, hyk⟩ := List.mem_filterMap.1 hA
  have hn := hw.nodup
  rw [keys_append] at hn
  exact (List.nodup_append.1 hn).2.2 k (mem_keys (h1 x hx) hxk) k (mem_keys (h2 y hy) hyk) rfl
theorem Aprt.sub {w0 : World} {S N H S' A : Hp} (h1 : (S' ++ A).Sublist (N ++ H)) : Aprt w0 S N H S' A := fun w hw k hk hA => by
  have hn := (h1.filterMap Ent.key).nodup hw.nodup
  rw [List.filterMap_append] at hn
  exact (List.nodup_append.1 hn).2.2 k hk k hA rfl
theorem Aprt.sub' {w0 : World} {S N H S' A : Hp} (h1 : (A ++ S').Sublist (N ++ H)) : Aprt w0 S N H S' A := fun w hw k hk hA => by
  have hn := (h1.filterMap Ent.key).nodup hw.nodup
  rw [List.filterMap_append] at hn
  exact (List.nodup_append.1 hn).2.2 k hA k hk rfl
/-- A value's place in the frame, if it has one. -/
@[reducible] def putO (d : Option Nat) (x : Value) (l : Fr) : Fr := match d with
  | none => l
  | some d => (d, true, x) :: l
/-- A contract: a value, and what was written. -/
def IsM (x : Value) (B : Hp) : Value → Hp → Hp → Prop := fun v N H => v = x ∧ N = [] ∧ H = B
section
variable {P : Program} {w0 : World} {n : Nat} {S N H : Hp} {l : Fr} {ops : Array Oper} {C : World → Prop} {K : Act → World → Prop} {r : List (Bool × Nat)} {i : Nat}
theorem At.callM {d : Option Nat} {fx : Operand} {xs : List Operand} {ats : Array TypeId} {ty : TypeId} {pos : String} {af : Array Edge} {gd : Option (Nat × Bool)} {f : FuncId} {fst cap : List Value} {vs args : List Value} {S' A B N1 H1 : Hp} {x : Value}
    (ho : ops[i]? = some ⟨d, .call { callee := .value fx, args := xs.toArray, argTypes := ats }, ty, pos, af, gd⟩) (hdn : (match d with | none => true | some d => Nat.blt d n) = true) (hg : wantG ops l ⟨d, .call { callee := .value fx, args := xs.toArray, argTypes := ats }, ty, pos, af, gd⟩ = some true)
    (hf : Ev n l true fx (.func (.func f) fst.toArray cap.toArray)) (hxs : Evs n l true xs vs) (hargs : fst ++ vs ++ cap = args) (hu : Ups N H A B N1 H1) (hS : Rds (fun w => St w0 w S N H) S') (hc : Fn P f args S' A (IsM x B)) (hk : keys B = keys A) (hSe : Aprt w0 S N H S' A)
    (h : Cl w0 S N1 H1 C ∧ At w0 n S (putO d x l) N1 H1 (wpSch P ops C K r)) : At w0 n S l N H (wpSch P ops C K ((false, i) :: r)) :=
  At.eW (d := d) ho hg fun a w ha hw => by
    unfold Oper.wp
    rw [run_call rfl ha hf hxs hc.1, Oper.upon_enter]
    have e1 : fst.toArray ++ vs.toArray ++ cap.toArray = args.toArray := by rw [← hargs]; simp
    rw [e1]
    have hw' : St w w S' [] A := St.refl (fun e he => hw.has e (hu.mem e he)) (fun x hx => hS.all x hx w hw) (hu.nodup hw) (hSe w hw)
    refine (hc.2 w hw').mono ?_
    rintro e0 w' ⟨v, N', H', hR, rfl, hst⟩
    obtain ⟨rfl, rfl, rfl⟩ := hR
    have := hw.callUps hu hk hst
    simp only [List.nil_append] at this
    refine ⟨h.1 w' this, h.2 _ w' ?_ this⟩
    cases d with
    | none => exact ha
    | some d => exact ha.put (by simpa using hdn) rfl
/-- The same, with new entries and a value that hangs on them. -/
theorem At.callMR {d : Option Nat} {fx : Operand} {xs : List Operand} {ats : Array TypeId} {ty : TypeId} {pos : String} {af : Array Edge} {gd : Option (Nat × Bool)} {f : FuncId} {fst cap : List Value} {vs args : List Value} {S' A B N1 H1 : Hp} {R : Value → Hp → Hp → Prop}
    (ho : ops[i]? = some ⟨d, .call { callee := .value fx, args := xs.toArray, argTypes := ats }, ty, pos, af, gd⟩) (hdn : (match d with | none => true | some d => Nat.blt d n) = true) (hg : wantG ops l ⟨d, .call { callee := .value fx, args := xs.toArray, argTypes := ats }, ty, pos, af, gd⟩ = some true)
    (hf : Ev n l true fx (.func (.func f) fst.toArray cap.toArray)) (hxs : Evs n l true xs vs) (hargs : fst ++ vs ++ cap = args) (hu0 : Ups N H A A N H) (hS : Rds (fun w => St w0 w S N H) S') (hc : Fn P f args S' A R) (hSe : Aprt w0 S N H S' A)
    (h : ∀ v N' B, R v N' B → ∃ N1 H1, Ups N H A B N1 H1 ∧ keys B = keys A ∧ Cl w0 S (N' ++ N1) H1 C ∧ At w0 n S (putO d v l) (N' ++ N1) H1 (wpSch P ops C K r)) : At w0 n S l N H (wpSch P ops C K ((false, i) :: r)) :=
  At.eW (d := d) ho hg fun a w ha hw => by
    unfold Oper.wp
    rw [run_call rfl ha hf hxs hc.1, Oper.upon_enter]
    have e1 : fst.toArray ++ vs.toArray ++ cap.toArray = args.toArray := by rw [← hargs]; simp
    rw [e1]
    have hw' : St w w S' [] A := St.refl (fun e he => hw.has e (hu0.mem e he)) (fun x hx => hS.all x hx w hw) (hu0.nodup hw) (hSe w hw)
    refine (hc.2 w hw').mono ?_
    rintro e0 w' ⟨v, N', B, hR, rfl, hst⟩
    obtain ⟨N1, H1, hu, hk, h1, h2⟩ := h v N' B hR
    have := hw.callUps hu hk hst
    refine ⟨h1 w' this, h2 _ w' ?_ this⟩
    cases d with
    | none => exact ha
    | some d => exact ha.put (by simpa using hdn) rfl
end
section
variable {P : Program} {w0 : World} {n : Nat} {S N H : Hp} {l : Fr} {ops : Array Oper}
/-- A region in three stages: L1 stands until the late operations come, L2 for ever. -/
theorem At.drawM {id : Nat} {Q : Exit → Act → World → Prop} (L1 L2 : Hp) (s0 s1 s2 : List (Bool × Nat)) (h01 : ∀ e ∈ L1, e ∈ S ++ (N ++ H)) (h12 : ∀ e ∈ L2, e ∈ L1) (hm : P.follows .mixedOrders = true) (hk : (Region.noSelect ops && (s2.length + s1.length + s0.length == ops.size) && schOkL .any ops s0 s1 s2 (Array.replicate ops.size false)) = true)
    (h : At w0 n S l N H (wpSch P ops (Kept L2) (fun a w => Kept L1 w ∧ wpSch P ops (Kept L1) (fun a w => Kept L2 w ∧ wpSch P ops (Kept L2) (Q .normal) s2 a w) s1 a w) s0)) : At w0 n S l N H ((Code.region id ops true).wp P Q) := fun a w ha hw => by
  simp only [Bool.and_eq_true] at hk
  exact wp_region_schL s0 s1 s2 (fun w hw e he => hw e (h12 e he)) hm hk.1.1 (by simpa using hk.1.2) hk.2 (h a w.drew ha hw.drew)
end
end Go.Proofs.Ytimclnhklaldfaa
