/- Part of the proof: lemmas for what the last file states; no condition. -/
import Derived.Test.YtbolanigdkgbdaaGreatZF1
import Derived.Laws.OwnMore
import Derived.Laws.StructEq
import Derived.Laws.Cover3
import Derived.MapKept
import Derived.DeepKeys3
import Derived.WideKeyRuns
set_option linter.unusedSectionVars false
namespace Go.Proofs.YtbolanigdkgbdaaGreat
open Go Go.RowKit
set_option linter.unusedSectionVars false
variable [Df]
structure Ek (α : Type) where
  enc : α → List Value
  sz : Nat
  len : ∀ x, (enc x).length = sz
  one : ∀ x, ∀ v ∈ enc x, v.oneCell' = true
variable {α : Type}
def Ek.all (k : Ek α) (l : List α) : List Value := l.flatMap k.enc
abbrev rdE (k : Ek α) (v : Value) (l : List α) : Ent := .rd v k.sz l.length (k.all l)
abbrev rowE (k : Ek α) (E : TypeId) (v : Value) (l : List α) : Ent := .row v E k.sz l.length (k.all l)
def gE [Inhabited α] (l : List α) (j : Int) : α := l.getD j.toNat default
theorem Ek.all_cons (k : Ek α) (x : α) (l : List α) : k.all (x :: l) = k.enc x ++ k.all l := rfl
theorem Ek.all_append (k : Ek α) (a b : List α) : k.all (a ++ b) = k.all a ++ k.all b := List.flatMap_append
theorem Ek.all_length (k : Ek α) (l : List α) : (k.all l).length = l.length * k.sz := by
  induction l with
  | nil => simp [Ek.all]
  | cons x l ih => rw [k.all_cons, List.length_append, ih, k.len, List.length_cons, Nat.add_mul, Nat.one_mul, Nat.add_comm]
theorem Ek.all_one (k : Ek α) (l : List α) : ∀ x ∈ k.all l, x.oneCell' = true := fun x hx => by
  obtain ⟨y, _, hy⟩ := List.mem_flatMap.1 hx
  exact k.one y x hy
theorem Ek.all_drop (k : Ek α) : ∀ (l : List α) (i : Nat), (k.all l).drop (i * k.sz) = k.all (l.drop i)
  | l, 0 => by simp
  | [], i + 1 => by simp [Ek.all]
  | x :: l, i + 1 => by
    rw [k.all_cons, Nat.add_mul, Nat.one_mul, Nat.add_comm, ← List.drop_drop]
    have : (k.enc x ++ k.all l).drop k.sz = k.all l := by rw [← k.len x]; exact List.drop_left
    rw [this, k.all_drop l i]; rfl
theorem Ek.all_take (k : Ek α) : ∀ (l : List α) (i : Nat), (k.all l).take (i * k.sz) = k.all (l.take i)
  | l, 0 => by simp [Ek.all]
  | [], i + 1 => by simp [Ek.all]
  | x :: l, i + 1 => by
    have e : (i + 1) * k.sz = (k.enc x).length + i * k.sz := by rw [k.len, Nat.add_mul, Nat.one_mul, Nat.add_comm]
    rw [k.all_cons, e, List.take_length_add_append, k.all_take l i]; rfl
theorem Ek.all_get [Inhabited α] (k : Ek α) (l : List α) {j : Int} (q : Nat) {u : Value} (hu : (k.enc (gE l j))[q]? = some u) (h : 0 ≤ j ∧ j < l.length) : (k.all l)[j.toNat * k.sz + q]? = some u := by
  have hq : q < k.sz := by have := (List.getElem?_eq_some_iff.1 hu).1; rwa [k.len] at this
  have hj : j.toNat < l.length := by omega
  have h1 : (k.all l)[j.toNat * k.sz + q]? = ((k.all l).drop (j.toNat * k.sz))[q]? := by rw [List.getElem?_drop]
  rw [h1, k.all_drop, List.drop_eq_getElem_cons hj, k.all_cons, List.getElem?_append_left (by rw [k.len]; exact hq), ← hu]
  simp [gE, hj]
theorem Ek.get0 [Inhabited α] {k : Ek α} {l : List α} {j : Int} {u : Value} (hu : (k.enc (gE l j))[0]? = some u) (h : 0 ≤ j ∧ j < l.length) : (k.all l)[j.toNat * k.sz]? = some u := k.all_get l 0 hu h
theorem Ek.getN [Inhabited α] {k : Ek α} {l : List α} {j : Int} {q : Nat} {u : Value} (hu : (k.enc (gE l j))[q]? = some u) (h : 0 ≤ j ∧ j < l.length) : (k.all l)[j.toNat * k.sz + q]? = some u := k.all_get l q hu h
theorem Ek.getA [Inhabited α] {k : Ek α} {l : List α} {j : Int} (h : 0 ≤ j ∧ j < l.length) : ∀ q u, (k.enc (gE l j))[q]? = some u → (k.all l)[j.toNat * k.sz + q]? = some u := fun _ _ hu => k.all_get l _ hu h
theorem setL_mid : ∀ (c pre post : List Value), c.length ≤ post.length → setL (pre ++ post) pre.length c = pre ++ c ++ post.drop c.length
  | [], pre, post, _ => by simp [setL]
  | v :: c, pre, [], h => absurd h (by simp)
  | v :: c, pre, p :: post, h => by
    have e : (pre ++ p :: post).set pre.length v = (pre ++ [v]) ++ post := by simp
    have := setL_mid c (pre ++ [v]) post (by simpa using h)
    simp only [setL, e]
    simpa using this
theorem Ek.all_set (k : Ek α) (l : List α) (i : Nat) (y : α) (h : i < l.length) : setL (k.all l) (i * k.sz) (k.enc y) = k.all (l.set i y) := by
  have h1 : (k.all (l.take i)).length = i * k.sz := by rw [k.all_length, List.length_take, Nat.min_eq_left (by omega)]
  have e : k.all l = k.all (l.take i) ++ k.all (l.drop i) := by rw [← k.all_append, List.take_append_drop]
  have e2 : l.drop i = l[i] :: l.drop (i + 1) := List.drop_eq_getElem_cons h
  have h2 : (k.enc y).length ≤ (k.all (l.drop i)).length := by rw [k.len, k.all_length, e2, List.length_cons, Nat.add_mul]; omega
  rw [e, ← h1, setL_mid _ _ _ h2, List.set_eq_take_append_cons_drop, if_pos h, k.all_append, k.all_cons, e2, k.all_cons, k.len, ← k.len l[i], List.drop_left]
  simp
theorem fill_row (k : Ek α) : ∀ (ys : List α) (s : Nat) (pre post : List Value), pre.length = s * k.sz → post.length = ys.length * k.sz →
    Instr.fill (fun i => some (i * k.sz, k.sz)) (pre ++ post).toArray ((List.range' s ys.length).zip (ys.map fun y => .agg (k.enc y).toArray)) = some (pre ++ k.all ys).toArray
  | [], s, pre, post, _, h2 => by
    have : post = [] := List.eq_nil_of_length_eq_zero (by simpa using h2)
    simp [Instr.fill, this, Ek.all]
  | y :: ys, s, pre, post, h1, h2 => by
    have hv : (Value.agg (k.enc y).toArray).cells = (k.enc y).toArray := rfl
    have h3 : k.sz ≤ post.length := by rw [h2, List.length_cons, Nat.add_mul]; omega
    have h4 : (k.enc y).toArray.zipIdx.foldl (fun cs (x : Value × Nat) => cs.setIfInBounds (s * k.sz + x.2) x.1) (pre ++ post).toArray = ((pre ++ k.enc y) ++ post.drop k.sz).toArray := by
      have := setL_fold (s * k.sz) (k.enc y) 0 (pre ++ post).toArray
      have e2 := setL_mid (k.enc y) pre post (by rw [k.len]; exact h3)
      rw [h1, k.len] at e2
      simp only [Nat.add_zero, e2] at this
      simpa using this
    have := fill_row k ys (s + 1) (pre ++ k.enc y) (post.drop k.sz) (by rw [List.length_append, h1, k.len, Nat.add_mul, Nat.one_mul]) (by rw [List.length_drop, h2, List.length_cons, Nat.add_mul]; omega)
    simp only [List.length_cons, List.range'_succ, List.map_cons, List.zip_cons_cons, Instr.fill, hv]
    rw [if_neg (by simp [k.len]; omega)]
    refine Eq.trans ?_ (this.trans (by rw [k.all_cons, List.append_assoc]))
    congr 1
inductive Es (k : Ek α) : List Value → List α → Prop
  | nil : Es k [] []
  | cons {v : Value} {y : α} {vs : List Value} {ys : List α} : v.cells = (k.enc y).toArray → Es k vs ys → Es k (v :: vs) (y :: ys)
theorem fill_es {k : Ek α} {p : Nat → Option (Nat × Nat)} : ∀ {ix : List Nat} {vs : List Value} {ys : List α} (z : Array Value), Es k vs ys → Instr.fill p z (ix.zip vs) = Instr.fill p z (ix.zip (ys.map fun y => .agg (k.enc y).toArray))
  | [], vs, cc, z, _ => by simp
  | i :: ix, _, _, z, .nil => by simp
  | i :: ix, v :: vs, c :: cc, z, .cons h1 h2 => by
    have hv : (Value.agg (k.enc c).toArray).cells = (k.enc c).toArray := rfl
    simp only [List.zip_cons_cons, List.map_cons, Instr.fill, h1, hv]
    split
    · rfl
    · split
      · rfl
      · exact fill_es _ h2
section
variable {P : Program} {w0 : World} {n : Nat} {S N H : Hp} {l : Fr} {ops : Array Oper} {C : World → Prop} {K : Act → World → Prop} {r : List (Bool × Nat)} {i : Nat}
theorem At.lit {d len : Nat} {t e : TypeId} {ty : TypeId} {pos : String} {af : Array Edge} {gd : Option (Nat × Bool)} {parts : List (Nat × Operand)} {k : Ek α} {vs : List Value} {ys : List α} {by' : Nat}
    (ho : ops[i]? = some ⟨some d, .buildSlice t len parts.toArray, ty, pos, af, gd⟩) (hdn : Nat.blt d n = true)
    (hg : wantG ops l ⟨some d, .buildSlice t len parts.toArray, ty, pos, af, gd⟩ = some true)
    (ht : P.underlying t = some (.slice e)) (he : elemTab P e = some (k.sz, by')) (hv : Evs n l true (parts.map (·.2)) vs) (hys : Es k vs ys) (hix : parts.map (·.1) = List.range' 0 ys.length) (hlen : len = ys.length) (hsmall : Nat.ble (len * k.sz) 1000000 = true)
    (h : ∀ v', Cl w0 S (rowE k e v' ys :: N) H C ∧ At w0 n S ((d, true, v') :: l) (rowE k e v' ys :: N) H (wpSch P ops C K r)) : At w0 n S l N H (wpSch P ops C K ((false, i) :: r)) :=
  At.eW (d := some d) ho hg fun a w ha hw => by
    obtain ⟨inf, z, h2, h3, h4, h5, h6, h7⟩ := elemTab_info he
    have hsm : len * k.sz ≤ 1000000 := Nat.le_of_ble_eq_true hsmall
    have h1 : (parts.map fun x => (x.1, a.eval x.2)) = (parts.map (·.1)).zip vs := by
      rw [← hv.eq rfl ha]
      clear hv hix ho hg
      induction parts with
      | nil => rfl
      | cons x r ih => simp only [List.map_cons, List.zip_cons_cons]; rw [ih]
    subst hlen
    have hrun : (execOp a.eval ⟨some d, .buildSlice t ys.length parts.toArray, ty, pos, af, gd⟩).run P w = .ok (.value (.slice (some ⟨w.heap.size, 0, none⟩) ys.length ys.length)) (w.alloc (.cells (k.all ys).toArray e)) := by
      have hf : ∀ z' : Array Value, z'.size = ys.length * k.sz → Instr.fill (fun i => some (i * k.sz, k.sz)) z' ((parts.map (·.1)).zip vs) = some (k.all ys).toArray := fun z' hz' => by
        rw [hix, fill_es _ hys]
        have := fill_row k ys 0 [] z'.toList (by simp) (by simpa using hz')
        simpa using this
      have hsz : (sizeOf e).run P w = .ok k.sz w := run_sizeOf (by simp [h2, h4]) w
      have hzv : (zeroValue e).run P w = .ok z w := by simp [zeroValue, typeInfo, h2, h3]
      have hnb : ¬ (16777216 < ys.length * k.sz) := by omega
      simp only [execOp, Instr.buildSlice, List.map_toArray, h1]
      by_cases h0 : ys.length * k.sz = 0
      · simp [run_underlying ht, hsz, h0]
        rw [hf _ (by simp [h0])]
        simp [newRow]
      · have e0 := hf (Array.map (fun x => z.cells[x % z.cells.size]!) (Array.range (ys.length * k.sz))) (by simp)
        simp [run_underlying ht, hsz, hnb, h0, hzv, e0, newRow]
    unfold Oper.wp
    rw [hrun, Oper.upon_value]
    have hown : (rowE k e (.slice (some ⟨w.heap.size, 0, none⟩) ys.length ys.length) ys).holds (w.alloc (.cells (k.all ys).toArray e)) := by
      have hs : (k.all ys).toArray.size = ys.length * k.sz := by simp [k.all_length]
      have h8 : ys.length ≤ maxLen := by
        have : ys.length * 1 ≤ ys.length * k.sz := Nat.mul_le_mul_left _ h7
        simp only [maxLen]; omega
      exact World.ownsRow_lit (e := e) (base := 0) (size := k.sz) w (k.all ys).toArray ys.length (Nat.zero_le _) h8 hs
    have := hw.addN (e' := rowE k e (.slice (some ⟨w.heap.size, 0, none⟩) ys.length ys.length) ys) (fun b hb' => by simp [Ent.key, Value.ownBlock] at hb'; omega) hown rfl rfl rfl (by rw [World.size_alloc]; exact Nat.le_succ _) (fun b hb' => heap_alloc_lt w _ hb')
    exact ⟨(h _).1 _ this, (h _).2 _ _ (ha.put (by simpa using hdn) rfl) this⟩
theorem St.nilRow {w : World} (h : St w0 w S N H) (k : Ek α) (E : TypeId) : St w0 w S (rowE k E (.slice none 0 0) [] :: N) H :=
  h.addN (e' := rowE k E (.slice none 0 0) []) (fun b hb => by simp [Ent.key, Value.ownBlock] at hb) (World.ownsRow_nil w 0 E k.sz) rfl rfl rfl (Nat.le_refl _) (fun _ _ => rfl)
theorem At.nilRow {X : Act → World → Prop} (k : Ek α) (E : TypeId) (h : At w0 n S l (rowE k E (.slice none 0 0) [] :: N) H X) : At w0 n S l N H X := fun a w ha hw => h a w ha (hw.nilRow k E)
theorem At.len {X : Act → World → Prop} {v : Value} {sz m : Nat} {xs : List Value} (hr : RdIn (fun w => St w0 w S N H) v sz m xs) (h : m ≤ 9223372036854775807 → At w0 n S l N H X) : At w0 n S l N H X := fun a w ha hw => by
  obtain ⟨A, cap, rfl, h1, h2, h3, h4⟩ := hr w hw
  exact h (by simp only [maxLen] at h2; omega) a w ha hw
theorem At.app {d : Nat} {x y : Operand} {t ty : TypeId} {pos : String} {af : Array Edge} {gd : Option (Nat × Bool)} {e by' : Nat} {v u : Value} {k : Ek α} {xs ys : List α}
    (ho : ops[i]? = some ⟨some d, .call { callee := .builtin .append, args := #[x, y], argTypes := #[t, t] }, ty, pos, af, gd⟩) (hdn : Nat.blt d n = true)
    (hg : wantG ops l ⟨some d, .call { callee := .builtin .append, args := #[x, y], argTypes := #[t, t] }, ty, pos, af, gd⟩ = some true)
    (ht : P.underlying t = some (.slice e)) (he : elemTab P e = some (k.sz, by')) (hx : Ev n l true x v) (hy : Ev n l true y u) {N' : Value → Hp} (hu : ∀ v', UpL N (rowE k e v xs) (rowE k e v' (xs ++ ys)) (N' v')) (hr : RdIn (fun w => St w0 w S N H) u k.sz ys.length (k.all ys))
    (hb : (xs.length + ys.length) * by' ≤ 140737488355328 ∧ xs.length + ys.length ≤ 140737488355328)
    (h : ∀ v', Cl w0 S (N' v') H C ∧ At w0 n S ((d, true, v') :: l) (N' v') H (wpSch P ops C K r)) : At w0 n S l N H (wpSch P ops C K ((false, i) :: r)) :=
  At.append (sz := k.sz) (m := xs.length) (k := ys.length) (xs := k.all xs) (news := k.all ys) ho hdn hg ht he hx hy hr (k.all_one ys) hb
    (fun v' => by have := hu v'; rw [rowE, rowE, List.length_append, k.all_append] at this; exact this) h
inductive Rds (C : World → Prop) : Hp → Prop
  | nil : Rds C []
  | cons {v : Value} {sz m : Nat} {xs : List Value} {T : Hp} : RdIn C v sz m xs → Rds C T → Rds C (.rd v sz m xs :: T)
  | blk {b : Nat} {o : Obj} {T : Hp} : Go.Proofs.YtbolanigdkgbdaaGreat.Holds C (.blk b o) → Rds C T → Rds C (.blk b o :: T)
theorem Rds.all {C : World → Prop} {T : Hp} (h : Rds C T) : ∀ e ∈ T, ∀ w, C w → e.holds w := by
  induction h with
  | nil => intro e he; cases he
  | cons h1 _ ih =>
    intro e he
    rcases List.mem_cons.1 he with rfl | he
    · exact h1
    · exact ih e he
  | blk h1 _ ih =>
    intro e he
    rcases List.mem_cons.1 he with rfl | he
    · exact h1
    · exact ih e he
def IsR (k : Ek α) (E : TypeId) (x : List α) : Value → Hp → Hp → Prop := fun v N H => N = [rowE k E v x] ∧ H = []
def IsW (x : Value) (L : Hp) : Value → Hp → Hp → Prop := fun v N H => v = x ∧ N = [] ∧ H = L
theorem At.callR {d : Nat} {fx : Operand} {xs : List Operand} {ats : Array TypeId} {ty : TypeId} {pos : String} {af : Array Edge} {gd : Option (Nat × Bool)} {f : FuncId} {fst cap : List Value} {vs args : List Value} {S' : Hp} {k : Ek α} {E : TypeId} {z : List α}
    (ho : ops[i]? = some ⟨some d, .call { callee := .value fx, args := xs.toArray, argTypes := ats }, ty, pos, af, gd⟩) (hdn : Nat.blt d n = true) (hg : wantG ops l ⟨some d, .call { callee := .value fx, args := xs.toArray, argTypes := ats }, ty, pos, af, gd⟩ = some true)
    (hf : Ev n l true fx (.func (.func f) fst.toArray cap.toArray)) (hxs : Evs n l true xs vs) (hargs : fst ++ vs ++ cap = args) (hc : Fn P f args S' [] (IsR k E z)) (hS : Rds (fun w => St w0 w S N H) S')
    (h : ∀ v, Cl w0 S (rowE k E v z :: N) H C ∧ At w0 n S ((d, true, v) :: l) (rowE k E v z :: N) H (wpSch P ops C K r)) : At w0 n S l N H (wpSch P ops C K ((false, i) :: r)) :=
  At.callP ho hdn hg hf hxs hargs hc hS.all fun v N' H' hR => by
    obtain ⟨rfl, rfl⟩ := hR
    exact ⟨rfl, h v⟩
theorem At.callRF {d : Nat} {xs : List Operand} {ats : Array TypeId} {ty : TypeId} {pos : String} {af : Array Edge} {gd : Option (Nat × Bool)} {f : FuncId} {vs : List Value} {S' : Hp} {k : Ek α} {E : TypeId} {z : List α}
    (ho : ops[i]? = some ⟨some d, .call { callee := .value (.func f), args := xs.toArray, argTypes := ats }, ty, pos, af, gd⟩) (hdn : Nat.blt d n = true) (hg : wantG ops l ⟨some d, .call { callee := .value (.func f), args := xs.toArray, argTypes := ats }, ty, pos, af, gd⟩ = some true)
    (hxs : Evs n l true xs vs) (hS : Rds (fun w => St w0 w S N H) S') (hc : Fn P f vs S' [] (IsR k E z))
    (h : ∀ v, Cl w0 S (rowE k E v z :: N) H C ∧ At w0 n S ((d, true, v) :: l) (rowE k E v z :: N) H (wpSch P ops C K r)) : At w0 n S l N H (wpSch P ops C K ((false, i) :: r)) :=
  At.callR (fst := []) (cap := []) ho hdn hg Ev.f hxs (by simp) hc hS h
theorem At.callVR {d : Nat} {xs : List Operand} {ats : Array TypeId} {ty : TypeId} {pos : String} {af : Array Edge} {gd : Option (Nat × Bool)} {g : Bool} {f : FuncId} {vs : List Value} {S' : Hp} {v0 : Value}
    (ho : ops[i]? = some ⟨some d, .call { callee := .value (.func f), args := xs.toArray, argTypes := ats }, ty, pos, af, gd⟩) (hdn : Nat.blt d n = true) (hg : wantG ops l ⟨some d, .call { callee := .value (.func f), args := xs.toArray, argTypes := ats }, ty, pos, af, gd⟩ = some g)
    (hxs : Evs n l g xs vs) (hS : Rds (fun w => St w0 w S N H) S') (hc : g = true → Fn P f vs S' [] (IsV v0)) (hC : Cl w0 S N H C)
    (h : At w0 n S ((d, g, v0) :: l) N H (wpSch P ops C K r)) : At w0 n S l N H (wpSch P ops C K ((false, i) :: r)) :=
  At.callV ho hdn hg hxs hc hS.all hC h
theorem At.re {N' : Hp} {X : Act → World → Prop} (hN : N = N') (h : At w0 n S l N' H X) : At w0 n S l N H X := by subst hN; exact h
theorem At.join2 {β : Type} {X : Act → World → Prop} {s1 s2 : List (Bool × Nat)} (L : β → Fr) (NN : β → Hp) (hK : ∀ x, At w0 n S (L x) (NN x) H X)
    (h1 : (∀ x (l' : Fr) (N' : Hp), (∀ t v, look (L x) t = some v → look l' t = some v) → (NN x).Sublist N' → At w0 n S l' N' H X) → At w0 n S l N H (wpSch P ops C X s1))
    (h2 : (∀ x (l' : Fr) (N' : Hp), (∀ t v, look (L x) t = some v → look l' t = some v) → (NN x).Sublist N' → At w0 n S l' N' H X) → At w0 n S l N H (wpSch P ops C X s2)) :
    At w0 n S l N H (fun a w => wpSch P ops C X s1 a w ∧ wpSch P ops C X s2 a w) :=
  At.both (h1 fun x _ _ hl hN => At.weak hl hN (hK x)) (h2 fun x _ _ hl hN => At.weak hl hN (hK x))
theorem At.reRow {N' : Hp} {X : Act → World → Prop} {k : Ek α} {e : TypeId} {v : Value} {xs xs' : List α} (hu : UpL N (rowE k e v xs) (rowE k e v xs') N') (he : xs = xs') (h : At w0 n S l N' H X) : At w0 n S l N H X := by
  subst he
  obtain ⟨a, b, rfl, rfl⟩ := hu.form
  exact h
end
def flatKs (P : Program) : Nat → List Field → Option (List Bool)
  | _, [] => some []
  | i, f :: fs => if f.name ≠ "_" && f.offset == i then match P.underlying f.type, flatKs P (i + 1) fs with
    | some (.int _), some r => some (true :: r)
    | some .bool, some r => some (false :: r)
    | _, _ => none
    else none
def flatQ (P : Program) (T : TypeId) : Option (List Bool) :=
  match P.underlying T with
  | some (.struct fs) => if P.stoodInHeld T = false && P.eqGuardType P.depth T = false then flatKs P 0 fs.toList else none
  | _ => none
def eqL : List Bool → List Value → List Value → Option Bool
  | [], [], [] => some true
  | true :: ks, .int k a :: xs, .int k' b :: ys => if k = k' then (eqL ks xs ys).map ((a == b) && ·) else none
  | false :: ks, .bool a :: xs, .bool b :: ys => (eqL ks xs ys).map ((a == b) && ·)
  | _, _, _ => none
theorem run_part {P : Program} {w : World} {T : TypeId} {D : TypeDesc} (hT : P.underlying T = some D) (hD : plainD D = true) {xs : Array Value} {i : Nat} {v : Value} (hv : xs[i]? = some v) : (part T xs i).run P w = .ok v w := by
  have h2 := run_isAgg hT w
  rw [hD] at h2
  simp [part, h2, hv]
theorem run_eqFields {P : Program} {w : World} {d : Nat} : ∀ (fs : List Field) (ks : List Bool) (xs ys px py : List Value) (r : Bool), flatKs P px.length fs = some ks → px.length = py.length → eqL ks xs ys = some r →
    (Op.eqFields (d + 1) (px ++ xs).toArray (py ++ ys).toArray fs).run P w = .ok r w
  | [], ks, xs, ys, px, py, r, hk, hp, he => by
    simp only [flatKs, Option.some.injEq] at hk
    subst hk
    cases xs <;> cases ys <;> simp [eqL] at he
    subst he
    simp [Op.eqFields]
  | f :: fs, ks, xs, ys, px, py, r, hk, hp, he => by
    simp only [flatKs] at hk
    split at hk
    · rename_i hc
      simp only [ne_eq, Bool.and_eq_true, decide_eq_true_eq, beq_iff_eq] at hc
      obtain ⟨hn, ho⟩ := hc
      split at hk
      · rename_i k r' hT hr'
        injection hk with hk; subst hk
        match xs, ys, he with
        | .int k1 a :: xs, .int k2 b :: ys, he =>
          simp only [eqL] at he
          split at he
          · rename_i hkk; subst hkk
            simp only [Option.map_eq_some_iff] at he
            obtain ⟨r2, he2, rfl⟩ := he
            have h1 := run_part (w := w) hT rfl (xs := (px ++ .int k1 a :: xs).toArray) (i := f.offset) (v := .int k1 a) (by simp [ho])
            have h2 := run_part (w := w) hT rfl (xs := (py ++ .int k1 b :: ys).toArray) (i := f.offset) (v := .int k1 b) (by simp [ho, hp])
            have h3 := run_equalIn_int (P := P) w d f.type k1 k a b hT
            have ih := run_eqFields (w := w) (d := d) fs r' xs ys (px ++ [.int k1 a]) (py ++ [.int k1 b]) r2 (by simpa using hr') (by simp [hp]) he2
            simp only [List.append_assoc, List.singleton_append] at ih
            simp only [Op.eqFields, ne_eq, hn, not_false_eq_true, if_true, Sem.run_bind, h1, h2, h3, Result.andThen_ok]
            cases hab : (a == b) with
            | true => simpa [hab] using ih
            | false => simp
          · cases he
      · rename_i r' hT hr'
        injection hk with hk; subst hk
        match xs, ys, he with
        | .bool a :: xs, .bool b :: ys, he =>
          simp only [eqL] at he
          simp only [Option.map_eq_some_iff] at he
          obtain ⟨r2, he2, rfl⟩ := he
          have h1 := run_part (w := w) hT rfl (xs := (px ++ .bool a :: xs).toArray) (i := f.offset) (v := .bool a) (by simp [ho])
          have h2 := run_part (w := w) hT rfl (xs := (py ++ .bool b :: ys).toArray) (i := f.offset) (v := .bool b) (by simp [ho, hp])
          have h3 := run_equalIn_bool' (P := P) w d f.type a b hT
          have ih := run_eqFields (w := w) (d := d) fs r' xs ys (px ++ [.bool a]) (py ++ [.bool b]) r2 (by simpa using hr') (by simp [hp]) he2
          simp only [List.append_assoc, List.singleton_append] at ih
          simp only [Op.eqFields, ne_eq, hn, not_false_eq_true, if_true, Sem.run_bind, h1, h2, h3, Result.andThen_ok]
          cases hab : (a == b) with
          | true => simpa [hab] using ih
          | false => simp
      · cases hk
    · cases hk
section
variable {P : Program} {n : Nat} {l : Fr} {C : World → Prop} {d : Option Tmp} {ty : TypeId} {pos : String} {af : Array Edge} {gd : Option (Nat × Bool)} {g : Bool} {x y : Operand} {T U : TypeId} {xs ys : List Value} {ks : List Bool} {r : Bool}
theorem run_flat {w : World} (hq : flatQ P T = some ks) (he : eqL ks xs ys = some r) : P.eqGuardType P.depth T = false ∧ (Op.equalIn 10000 T (.agg xs.toArray) (.agg ys.toArray)).run P w = .ok r w := by
  unfold flatQ at hq
  split at hq
  · rename_i fs hfs
    split at hq
    · rename_i hc
      simp only [Bool.and_eq_true, decide_eq_true_eq] at hc
      have hF : P.fieldsOf T = fs := by simp [Program.fieldsOf, hfs]
      refine ⟨hc.2, ?_⟩
      rw [show (10000 : Nat) = 9999 + 1 from rfl, run_equalIn_agg w 9999 T _ _ (by rw [hF]; exact hfs) hc.1, hF]
      have := run_eqFields (P := P) (w := w) (d := 9998) fs.toList ks xs ys [] [] r hq rfl he
      simpa using this
    · cases hq
  · cases hq
theorem R.eqlS (hq : flatQ P T = some ks) (hx : Ev n l g x (.agg xs.toArray)) (hy : Ev n l g y (.agg ys.toArray)) (he : eqL ks xs ys = some r) : RunsC P n l C g ⟨d, .binOp .eql T x y U, ty, pos, af, gd⟩ (.bool r) := fun hg A w ha _ => by
  obtain ⟨h1, h2⟩ := run_flat (w := w) hq he
  simp [execOp, hx.eq hg ha, hy.eq hg ha, run_eqGuard_agg w .eql T x y _ _ h1, run_eql_struct, h2]
theorem R.neqS (hq : flatQ P T = some ks) (hx : Ev n l g x (.agg xs.toArray)) (hy : Ev n l g y (.agg ys.toArray)) (he : eqL ks xs ys = some r) : RunsC P n l C g ⟨d, .binOp .neq T x y U, ty, pos, af, gd⟩ (.bool (!r)) := fun hg A w ha _ => by
  obtain ⟨h1, h2⟩ := run_flat (w := w) hq he
  simp [execOp, hx.eq hg ha, hy.eq hg ha, run_eqGuard_agg w .neq T x y _ _ h1, run_neq_struct, h2]
end
theorem RdIn.cutE {C : World → Prop} {k : Ek α} {v : Value} {l : List α} (h : RdIn C v k.sz l.length (k.all l)) (lo hi : Nat) (h1 : lo ≤ hi) (h2 : hi ≤ l.length) : RdIn C (cutV v k.sz lo hi) k.sz ((l.drop lo).take (hi - lo)).length (k.all ((l.drop lo).take (hi - lo))) := by
  have := h.cut lo hi h1 h2
  rw [k.all_drop, k.all_take] at this
  have e : ((l.drop lo).take (hi - lo)).length = hi - lo := by rw [List.length_take, List.length_drop]; omega
  rwa [e]
section
variable {P : Program} {w0 : World} {n : Nat} {S N H : Hp} {l : Fr} {Q : Exit → Act → World → Prop}
abbrev Again1 (w0 : World) (n : Nat) (S : Hp) {β0 : Type} (I : β0 → Prop) (μ : β0 → Nat) (L : β0 → Fr) (NN HH : β0 → Hp) (i : β0) : Act → World → Prop := Again w0 n S (fun i : β0 => I i) (fun i : β0 => μ i) (fun i : β0 => L i) (fun i : β0 => NN i) (fun i : β0 => HH i) i
theorem At.loop1 {β0 : Type} (I : β0 → Prop) (μ : β0 → Nat) (L : β0 → Fr) (NN HH : β0 → Hp) {c : Code} (s0 : β0) (hI : I s0) (hl : Sub l (L s0)) (hN : (NN s0).Sublist N) (hH : HH s0 = H)
    (round : ∀ (x0 : β0), I x0 → At w0 n S (L x0) (NN x0) (HH x0) (c.wp P (Exit.then (Again1 w0 n S I μ L NN HH x0) Q))) : At w0 n S l N H ((Code.loop c).wp P Q) :=
  At.loop (fun i : β0 => I i) (fun i : β0 => μ i) (fun i : β0 => L i) (fun i : β0 => NN i) (fun i : β0 => HH i) s0 hI hl hN hH (fun i hi => round i hi)
theorem At.again1 {β0 : Type} {I : β0 → Prop} {μ : β0 → Nat} {L : β0 → Fr} {NN HH : β0 → Hp} {j : β0} (s0 : β0) (hI : I s0) (hμ : μ s0 < μ j) (hl : Sub l (L s0)) (hN : (NN s0).Sublist N) (hH : HH s0 = H) : At w0 n S l N H (Again1 w0 n S I μ L NN HH j) :=
  At.again (I := (fun i : β0 => I i)) (μ := (fun i : β0 => μ i)) (L := (fun i : β0 => L i)) (NN := (fun i : β0 => NN i)) (HH := (fun i : β0 => HH i)) s0 hI hμ hl hN hH
abbrev Again2 (w0 : World) (n : Nat) (S : Hp) {β0 β1 : Type} (I : β0 → β1 → Prop) (μ : β0 → β1 → Nat) (L : β0 → β1 → Fr) (NN HH : β0 → β1 → Hp) (i : β0 × β1) : Act → World → Prop := Again w0 n S (fun i : β0 × β1 => I i.1 i.2) (fun i : β0 × β1 => μ i.1 i.2) (fun i : β0 × β1 => L i.1 i.2) (fun i : β0 × β1 => NN i.1 i.2) (fun i : β0 × β1 => HH i.1 i.2) i
theorem At.loop2 {β0 β1 : Type} (I : β0 → β1 → Prop) (μ : β0 → β1 → Nat) (L : β0 → β1 → Fr) (NN HH : β0 → β1 → Hp) {c : Code} (s0 : β0) (s1 : β1) (hI : I s0 s1) (hl : Sub l (L s0 s1)) (hN : (NN s0 s1).Sublist N) (hH : HH s0 s1 = H)
    (round : ∀ (x0 : β0) (x1 : β1), I x0 x1 → At w0 n S (L x0 x1) (NN x0 x1) (HH x0 x1) (c.wp P (Exit.then (Again2 w0 n S I μ L NN HH (x0, x1)) Q))) : At w0 n S l N H ((Code.loop c).wp P Q) :=
  At.loop (fun i : β0 × β1 => I i.1 i.2) (fun i : β0 × β1 => μ i.1 i.2) (fun i : β0 × β1 => L i.1 i.2) (fun i : β0 × β1 => NN i.1 i.2) (fun i : β0 × β1 => HH i.1 i.2) (s0, s1) hI hl hN hH (fun i hi => round i.1 i.2 hi)
theorem At.again2 {β0 β1 : Type} {I : β0 → β1 → Prop} {μ : β0 → β1 → Nat} {L : β0 → β1 → Fr} {NN HH : β0 → β1 → Hp} {j : β0 × β1} (s0 : β0) (s1 : β1) (hI : I s0 s1) (hμ : μ s0 s1 < μ j.1 j.2) (hl : Sub l (L s0 s1)) (hN : (NN s0 s1).Sublist N) (hH : HH s0 s1 = H) : At w0 n S l N H (Again2 w0 n S I μ L NN HH j) :=
  At.again (I := (fun i : β0 × β1 => I i.1 i.2)) (μ := (fun i : β0 × β1 => μ i.1 i.2)) (L := (fun i : β0 × β1 => L i.1 i.2)) (NN := (fun i : β0 × β1 => NN i.1 i.2)) (HH := (fun i : β0 × β1 => HH i.1 i.2)) (s0, s1) hI hμ hl hN hH
abbrev Again3 (w0 : World) (n : Nat) (S : Hp) {β0 β1 β2 : Type} (I : β0 → β1 → β2 → Prop) (μ : β0 → β1 → β2 → Nat) (L : β0 → β1 → β2 → Fr) (NN HH : β0 → β1 → β2 → Hp) (i : β0 × β1 × β2) : Act → World → Prop := Again w0 n S (fun i : β0 × β1 × β2 => I i.1 i.2.1 i.2.2) (fun i : β0 × β1 × β2 => μ i.1 i.2.1 i.2.2) (fun i : β0 × β1 × β2 => L i.1 i.2.1 i.2.2) (fun i : β0 × β1 × β2 => NN i.1 i.2.1 i.2.2) (fun i : β0 × β1 × β2 => HH i.1 i.2.1 i.2.2) i
theorem At.loop3 {β0 β1 β2 : Type} (I : β0 → β1 → β2 → Prop) (μ : β0 → β1 → β2 → Nat) (L : β0 → β1 → β2 → Fr) (NN HH : β0 → β1 → β2 → Hp) {c : Code} (s0 : β0) (s1 : β1) (s2 : β2) (hI : I s0 s1 s2) (hl : Sub l (L s0 s1 s2)) (hN : (NN s0 s1 s2).Sublist N) (hH : HH s0 s1 s2 = H)
    (round : ∀ (x0 : β0) (x1 : β1) (x2 : β2), I x0 x1 x2 → At w0 n S (L x0 x1 x2) (NN x0 x1 x2) (HH x0 x1 x2) (c.wp P (Exit.then (Again3 w0 n S I μ L NN HH (x0, x1, x2)) Q))) : At w0 n S l N H ((Code.loop c).wp P Q) :=
  At.loop (fun i : β0 × β1 × β2 => I i.1 i.2.1 i.2.2) (fun i : β0 × β1 × β2 => μ i.1 i.2.1 i.2.2) (fun i : β0 × β1 × β2 => L i.1 i.2.1 i.2.2) (fun i : β0 × β1 × β2 => NN i.1 i.2.1 i.2.2) (fun i : β0 × β1 × β2 => HH i.1 i.2.1 i.2.2) (s0, s1, s2) hI hl hN hH (fun i hi => round i.1 i.2.1 i.2.2 hi)
theorem At.again3 {β0 β1 β2 : Type} {I : β0 → β1 → β2 → Prop} {μ : β0 → β1 → β2 → Nat} {L : β0 → β1 → β2 → Fr} {NN HH : β0 → β1 → β2 → Hp} {j : β0 × β1 × β2} (s0 : β0) (s1 : β1) (s2 : β2) (hI : I s0 s1 s2) (hμ : μ s0 s1 s2 < μ j.1 j.2.1 j.2.2) (hl : Sub l (L s0 s1 s2)) (hN : (NN s0 s1 s2).Sublist N) (hH : HH s0 s1 s2 = H) : At w0 n S l N H (Again3 w0 n S I μ L NN HH j) :=
  At.again (I := (fun i : β0 × β1 × β2 => I i.1 i.2.1 i.2.2)) (μ := (fun i : β0 × β1 × β2 => μ i.1 i.2.1 i.2.2)) (L := (fun i : β0 × β1 × β2 => L i.1 i.2.1 i.2.2)) (NN := (fun i : β0 × β1 × β2 => NN i.1 i.2.1 i.2.2)) (HH := (fun i : β0 × β1 × β2 => HH i.1 i.2.1 i.2.2)) (s0, s1, s2) hI hμ hl hN hH
end
theorem M0 {β : Type} {a : β} {l : List β} : a ∈ a :: l := .head _
theorem M1 {β : Type} {a b0 : β} {l : List β} : a ∈ b0 :: a :: l := .tail _ M0
theorem M2 {β : Type} {a b0 b1 : β} {l : List β} : a ∈ b0 :: b1 :: a :: l := .tail _ M1
theorem M3 {β : Type} {a b0 b1 b2 : β} {l : List β} : a ∈ b0 :: b1 :: b2 :: a :: l := .tail _ M2
theorem M4 {β : Type} {a b0 b1 b2 b3 : β} {l : List β} : a ∈ b0 :: b1 :: b2 :: b3 :: a :: l := .tail _ M3
theorem M5 {β : Type} {a b0 b1 b2 b3 b4 : β} {l : List β} : a ∈ b0 :: b1 :: b2 :: b3 :: b4 :: a :: l := .tail _ M4
theorem M6 {β : Type} {a b0 b1 b2 b3 b4 b5 : β} {l : List β} : a ∈ b0 :: b1 :: b2 :: b3 :: b4 :: b5 :: a :: l := .tail _ M5
theorem M7 {β : Type} {a b0 b1 b2 b3 b4 b5 b6 : β} {l : List β} : a ∈ b0 :: b1 :: b2 :: b3 :: b4 :: b5 :: b6 :: a :: l := .tail _ M6
theorem M8 {β : Type} {a b0 b1 b2 b3 b4 b5 b6 b7 : β} {l : List β} : a ∈ b0 :: b1 :: b2 :: b3 :: b4 :: b5 :: b6 :: b7 :: a :: l := .tail _ M7
theorem U0 {l : Hp} {e e' : Ent} : UpL (e :: l) e e' (e' :: l) := .here
theorem U1 {l : Hp} {e e' b0 : Ent} : UpL (b0 :: e :: l) e e' (b0 :: e' :: l) := .there U0
theorem U2 {l : Hp} {e e' b0 b1 : Ent} : UpL (b0 :: b1 :: e :: l) e e' (b0 :: b1 :: e' :: l) := .there U1
theorem U3 {l : Hp} {e e' b0 b1 b2 : Ent} : UpL (b0 :: b1 :: b2 :: e :: l) e e' (b0 :: b1 :: b2 :: e' :: l) := .there U2
theorem U4 {l : Hp} {e e' b0 b1 b2 b3 : Ent} : UpL (b0 :: b1 :: b2 :: b3 :: e :: l) e e' (b0 :: b1 :: b2 :: b3 :: e' :: l) := .there U3
theorem U5 {l : Hp} {e e' b0 b1 b2 b3 b4 : Ent} : UpL (b0 :: b1 :: b2 :: b3 :: b4 :: e :: l) e e' (b0 :: b1 :: b2 :: b3 :: b4 :: e' :: l) := .there U4
theorem U6 {l : Hp} {e e' b0 b1 b2 b3 b4 b5 : Ent} : UpL (b0 :: b1 :: b2 :: b3 :: b4 :: b5 :: e :: l) e e' (b0 :: b1 :: b2 :: b3 :: b4 :: b5 :: e' :: l) := .there U5
section
variable {w0 : World} {S N H L : Hp} {v : Value} {E : TypeId} {sz m : Nat} {xs : List Value}
theorem rS (h : Ent.rd v sz m xs ∈ S ++ (N ++ H)) : RdIn (fun w => St w0 w S N H) v sz m xs := RdIn.rd (.st h)
theorem wS (h : Ent.row v E sz m xs ∈ S ++ (N ++ H)) : RdIn (fun w => St w0 w S N H) v sz m xs := RdIn.row (.st h)
theorem rK (h : Ent.rd v sz m xs ∈ L) : RdIn (Kept L) v sz m xs := RdIn.rd (.kept h)
theorem wK (h : Ent.row v E sz m xs ∈ L) : RdIn (Kept L) v sz m xs := RdIn.row (.kept h)
theorem cS {b i : Nat} {cs : Array Value} {T : TypeId} {fz : Nat × Nat} (hm : Ent.blk b (.cells cs T fz) ∈ S ++ (N ++ H)) (hc : cs[i]? = some v) : CellIn (fun w => St w0 w S N H) b i v := cin (.st hm) hc
theorem cK {b i : Nat} {cs : Array Value} {T : TypeId} {fz : Nat × Nat} (hm : Ent.blk b (.cells cs T fz) ∈ L) (hc : cs[i]? = some v) : CellIn (Kept L) b i v := cin (.kept hm) hc
theorem csS {b i : Nat} {cs : Array Value} {T : TypeId} {fz : Nat × Nat} (hm : Ent.blk b (.cells cs T fz) ∈ S ++ (N ++ H)) (hc : CellsAt cs i xs) : CellsIn (fun w => St w0 w S N H) b i xs := csin (.st hm) hc
theorem csK {b i : Nat} {cs : Array Value} {T : TypeId} {fz : Nat × Nat} (hm : Ent.blk b (.cells cs T fz) ∈ L) (hc : CellsAt cs i xs) : CellsIn (Kept L) b i xs := csin (.kept hm) hc
end
section
variable {w0 : World} {S N H : Hp} {v : Value} {E : TypeId} {sz m : Nat} {xs : List Value}
theorem wN (h : Ent.row v E sz m xs ∈ N ++ H) : RdIn (fun w => St w0 w S N H) v sz m xs := wS (List.mem_append_right S h)
theorem wKN (h : Ent.row v E sz m xs ∈ N ++ H) : RdIn (Kept (S ++ (N ++ H))) v sz m xs := wK (List.mem_append_right S h)
theorem cN {b i : Nat} {cs : Array Value} {T : TypeId} {fz : Nat × Nat} (hm : Ent.blk b (.cells cs T fz) ∈ N ++ H) (hc : cs[i]? = some v) : CellIn (fun w => St w0 w S N H) b i v := cS (List.mem_append_right S hm) hc
theorem cKN {b i : Nat} {cs : Array Value} {T : TypeId} {fz : Nat × Nat} (hm : Ent.blk b (.cells cs T fz) ∈ N ++ H) (hc : cs[i]? = some v) : CellIn (Kept (S ++ (N ++ H))) b i v := cK (List.mem_append_right S hm) hc
theorem csN {b i : Nat} {cs : Array Value} {T : TypeId} {fz : Nat × Nat} (hm : Ent.blk b (.cells cs T fz) ∈ N ++ H) (hc : CellsAt cs i xs) : CellsIn (fun w => St w0 w S N H) b i xs := csS (List.mem_append_right S hm) hc
theorem csKN {b i : Nat} {cs : Array Value} {T : TypeId} {fz : Nat × Nat} (hm : Ent.blk b (.cells cs T fz) ∈ N ++ H) (hc : CellsAt cs i xs) : CellsIn (Kept (S ++ (N ++ H))) b i xs := csK (List.mem_append_right S hm) hc
abbrev nest (k : Ek α) (V : Value) (gs : List (Value × List α)) : Hp := .rd V 1 gs.length (gs.map (·.1)) :: gs.map fun x => rdE k x.1 x.2
theorem nestS [Inhabited α] {k : Ek α} {gs : List (Value × List α)} {j : Int} (h : ∀ x ∈ gs, rdE k x.1 x.2 ∈ S) (hj : 0 ≤ j ∧ j < gs.length) : RdIn (fun w => St w0 w S N H) (gE gs j).1 k.sz (gE gs j).2.length (k.all (gE gs j).2) := by
  refine rS (List.mem_append_left _ (h _ ?_))
  unfold gE
  rw [List.getD_eq_getElem?_getD, List.getElem?_eq_getElem (by omega)]
  exact List.getElem_mem _
theorem nestK [Inhabited α] {k : Ek α} {gs : List (Value × List α)} {j : Int} (h : ∀ x ∈ gs, rdE k x.1 x.2 ∈ S) (hj : 0 ≤ j ∧ j < gs.length) : RdIn (Kept (S ++ (N ++ H))) (gE gs j).1 k.sz (gE gs j).2.length (k.all (gE gs j).2) := by
  refine rK (List.mem_append_left _ (h _ ?_))
  unfold gE
  rw [List.getD_eq_getElem?_getD, List.getElem?_eq_getElem (by omega)]
  exact List.getElem_mem _
theorem nestGet [Inhabited α] {gs : List (Value × List α)} {j : Int} (hj : 0 ≤ j ∧ j < gs.length) : (gs.map (·.1))[j.toNat * 1]? = some (gE gs j).1 := by
  unfold gE
  rw [Nat.mul_one, List.getElem?_map, List.getD_eq_getElem?_getD, List.getElem?_eq_getElem (by omega)]; rfl
end
theorem keepOf {L L' : Hp} (h : L.Sublist L') : ∀ e ∈ L, e ∈ L' := fun _ he => h.subset he
structure Itm where
  key : Int
  ver : Int
  data : Int
instance : Inhabited Itm := ⟨⟨0, 0, 0⟩⟩
theorem Itm.ext' {a b : Itm} (h1 : a.key = b.key) (h2 : a.ver = b.ver) (h3 : a.data = b.data) : a = b := by cases a; cases b; simp_all
instance : DecidableEq Itm := fun a b => if h : a.key = b.key ∧ a.ver = b.ver ∧ a.data = b.data then isTrue (Itm.ext' h.1 h.2.1 h.2.2) else isFalse fun e => h (by subst e; exact ⟨rfl, rfl, rfl⟩)
abbrev iK : Ek Itm := ⟨fun x => [.int .i64 x.key, .int .i64 x.ver, .int .i64 x.data], 3, fun _ => rfl, fun _ v hv => by
  simp at hv; rcases hv with rfl | rfl | rfl <;> rfl⟩
theorem iK_eqb {x y : Itm} : ((x.key == y.key) && ((x.ver == y.ver) && ((x.data == y.data) && true))) = decide (x = y) := by
  rw [Bool.eq_iff_iff]; simp; exact ⟨fun ⟨h1, h2, h3⟩ => Itm.ext' h1 h2 h3, fun e => by subst e; exact ⟨rfl, rfl, rfl⟩⟩
abbrev zK : Ek Int := ⟨fun x => [.int .i64 x], 1, fun _ => rfl, fun _ v hv => by
  simp at hv; subst hv; rfl⟩
end Go.Proofs.YtbolanigdkgbdaaGreat
namespace Go.Proofs.YtbolanigdkgbdaaGreat
open Go Go.RowKit
set_option linter.unusedSectionVars false
variable [Df]
section
variable {P : Program} {ops : Array Oper} {Q : Exit → Act → World → Prop} {md : Region.Mode} {D : Nat → World → Prop}
def wpAnyG (P : Program) (md : Region.Mode) (ops : Array Oper) (Q : Exit → Act → World → Prop) (D : Nat → World → Prop) : Nat → Array Bool → Act → World → Prop
  | 0, listed, a, w => Region.ready md ops listed = [] ∧ Q .normal a w
  | fuel + 1, listed, a, w =>
    (Region.ready md ops listed = [] → Q .normal a w) ∧
    ∀ i ∈ Region.ready md ops listed, wpOp P ops Q i (fun a' w' => (w' = w ∨ D i w') ∧ wpAnyG P md ops Q D fuel (listed.setIfInBounds i true) a' w') a w
theorem wpAny_of_G : ∀ (fuel : Nat) (listed : Array Bool) (a : Act) (w : World), wpAnyG P md ops Q D fuel listed a w → wpAny P md ops Q fuel listed a w
  | 0, _, _, _, h => h
  | fuel + 1, _, _, _, h => ⟨h.1, fun i hi => wpOp_mono (fun a' w' h' => wpAny_of_G fuel _ a' w' h'.2) (h.2 i hi)⟩
theorem wpAnyG_first {i : Nat} {oi : Oper} {v : Value} {C : World → Prop} (hi : ops[i]? = some oi) (hsel : ∀ (j : Nat) (o : Oper) cs b, ops[j]? = some o → o.op ≠ .select cs b)
    (hQ : ∀ c a w, Q (.panic c) (a.put oi.dst v) w → Q (.panic c) a w) :
    ∀ (fuel : Nat) (listed : Array Bool) (a : Act) (w : World),
      (∀ j oj, ops[j]? = some oj → j ≠ i → listed.getD j true = false → (∀ e ∈ oj.after, Region.binds md e = true → e.on ≠ i) → oi.apart ops oj = true ∧ ∀ w, D j w → C w) →
      i ∈ Region.ready md ops listed → YieldsIf P ops C oi v a → C w →
      wpAnyG P md ops Q D fuel (listed.setIfInBounds i true) (a.put oi.dst v) w → wpAnyG P md ops Q D (fuel + 1) listed a w := by
  intro fuel
  induction fuel with
  | zero =>
    intro listed a w _ hr hy hS H
    refine ⟨fun h => (by rw [h] at hr; cases hr), fun j hj => ?_⟩
    by_cases hji : j = i
    · subst hji; exact hy.wpOp hi hS ⟨.inl rfl, H⟩
    · have := ready_mono hj hji
      rw [H.1] at this
      cases this
  | succ fuel ih =>
    intro listed a w hfree hr hy hS H
    refine ⟨fun h => (by rw [h] at hr; cases hr), fun j hj => ?_⟩
    by_cases hji : j = i
    · subst hji; exact hy.wpOp hi hS ⟨.inl rfl, H⟩
    · have h1 := H.2 j (ready_mono hj hji)
      obtain ⟨hjun, oj, hoj, hall⟩ := mem_ready.1 hj
      have hnot : ∀ e ∈ oj.after, Region.binds md e = true → e.on ≠ i := fun e he hb heq => by
        have h1 := hall e he hb
        have h0 := (mem_ready.1 hr).1
        rw [heq] at h1
        rcases Nat.lt_or_ge i listed.size with h' | h'
        · simp [h'] at h0 h1; rw [h0] at h1; cases h1
        · simp [Array.getElem?_eq_none h'] at h1
      obtain ⟨hap, hDj⟩ := hfree j oj hoj hji hjun hnot
      have h2 := wpOp_putIf hoj hap (fun cs b => hsel i oi cs b hi) (fun cs b => hsel j oj cs b hoj) hQ hy h1
      have hfree' : ∀ k ok, ops[k]? = some ok → k ≠ i → (listed.setIfInBounds j true).getD k true = false →
          (∀ e ∈ ok.after, Region.binds md e = true → e.on ≠ i) → oi.apart ops ok = true ∧ ∀ w, D k w → C w := fun k ok hk hki hun hno => by
        refine hfree k ok hk hki ?_ hno
        by_cases hjk : j = k
        · subst hjk; exact hjun
        · rw [getD_set_ne true hjk] at hun; exact hun
      refine wpOp_mono (fun a' w' h3 => ⟨h3.2.1, ih (listed.setIfInBounds j true) a' w' hfree' (ready_mono hr (Ne.symm hji)) h3.1 (h3.2.1.elim (fun e => e ▸ hS) (hDj _)) ?_⟩) h2
      rw [Array.setIfInBounds_comm _ _ hji]
      exact h3.2.2
def waitsB (md : Region.Mode) (ops : Array Oper) (late : List Nat) (listed : Array Bool) (i : Nat) : Bool :=
  late.all fun j => listed.getD j true || match ops[j]? with
    | some oj => oj.after.any (fun e => Region.binds md e && e.on == i)
    | none => true
def lateD (late : List Nat) (C1 C2 : World → Prop) (j : Nat) (w : World) : Prop := if late.contains j then C2 w else C1 w
def schTo1 (md : Region.Mode) (ops : Array Oper) (late : List Nat) : List (Bool × Nat) → Array Bool → Option (Array Bool)
  | [], listed => some listed
  | (true, i) :: r, listed => if (Region.ready md ops listed).contains i && Region.free md ops listed i && waitsB md ops late listed i then schTo1 md ops late r (listed.setIfInBounds i true) else none
  | (false, i) :: r, listed => if Region.ready md ops listed == [i] && !late.contains i then schTo1 md ops late r (listed.setIfInBounds i true) else none
def schTo2 (md : Region.Mode) (ops : Array Oper) (late : List Nat) : List (Bool × Nat) → Array Bool → Option (Array Bool)
  | [], listed => some listed
  | (true, i) :: r, listed => if (Region.ready md ops listed).contains i && Region.free md ops listed i then schTo2 md ops late r (listed.setIfInBounds i true) else none
  | (false, i) :: r, listed => if Region.ready md ops listed == [i] && late.contains i then schTo2 md ops late r (listed.setIfInBounds i true) else none
theorem wpSch_to2 {C1 C2 : World → Prop} {K : Act → World → Prop} {late : List Nat} (h12 : ∀ w, C1 w → C2 w) (hs : Region.noSelect ops = true) : ∀ (steps : List (Bool × Nat)) (listed listed' : Array Bool) (a : Act) (w : World), C2 w → schTo2 md ops late steps listed = some listed' → Region.ready md ops listed' = [] →
    wpSch P ops C2 K steps a w → wpAnyG P md ops (NoQ K) (lateD late C1 C2) steps.length listed a w
  | [], listed, listed', a, w, hC, hk, hend, h => by
    injection hk with hk; subst hk
    exact ⟨hend, h⟩
  | (true, i) :: r, listed, listed', a, w, hC, hk, hend, h => by
    simp only [schTo2] at hk
    split at hk
    · rename_i hc
      simp only [Bool.and_eq_true] at hc
      obtain ⟨o, v, ho, hy, hC, h⟩ := h
      refine wpAnyG_first (C := C2) ho (Region.noSelect_spec hs) (fun _ _ _ h => h.elim) _ listed a w (fun j oj hj hji hun hno => ⟨Region.free_spec ho hc.2 j oj hj hji hun hno, fun w hw => ?_⟩) (by simpa using hc.1) hy hC
        (wpSch_to2 h12 hs r _ _ _ _ hC hk hend h)
      simp only [lateD] at hw
      split at hw
      · exact hw
      · exact h12 _ hw
    · cases hk
  | (false, i) :: r, listed, listed', a, w, hC, hk, hend, h => by
    simp only [schTo2] at hk
    split at hk
    · rename_i hc
      simp only [Bool.and_eq_true] at hc
      have hr : Region.ready md ops listed = [i] := by simpa using hc.1
      refine ⟨fun h0 => absurd (hr ▸ h0) (by simp), fun j hj => ?_⟩
      rw [hr] at hj
      have : j = i := by simpa using hj
      subst this
      exact wpOp_mono (fun a' w' h' => ⟨.inr (by simp only [lateD, hc.2, if_true]; exact h'.1), wpSch_to2 h12 hs r _ _ _ _ h'.1 hk hend h'.2⟩) (wpOp_QF h)
    · cases hk
theorem wpSch_to1 {C1 C2 : World → Prop} {K : Act → World → Prop} {late : List Nat} (h12 : ∀ w, C1 w → C2 w) (hs : Region.noSelect ops = true) (s2 : List (Bool × Nat)) (listed' listed2 : Array Bool) (hk2 : schTo2 md ops late s2 listed' = some listed2) (hend : Region.ready md ops listed2 = []) :
    ∀ (steps : List (Bool × Nat)) (listed : Array Bool) (a : Act) (w : World), C1 w → schTo1 md ops late steps listed = some listed' →
    wpSch P ops C1 (fun a w => C2 w ∧ wpSch P ops C2 K s2 a w) steps a w → wpAnyG P md ops (NoQ K) (lateD late C1 C2) (s2.length + steps.length) listed a w
  | [], listed, a, w, hC, hk, h => by
    injection hk with hk; subst hk
    exact wpSch_to2 h12 hs s2 _ _ _ _ h.1 hk2 hend h.2
  | (true, i) :: r, listed, a, w, hC, hk, h => by
    simp only [schTo1] at hk
    split at hk
    · rename_i hc
      simp only [Bool.and_eq_true, waitsB, List.all_eq_true, Bool.or_eq_true] at hc
      obtain ⟨o, v, ho, hy, hC, h⟩ := h
      refine wpAnyG_first (C := C1) ho (Region.noSelect_spec hs) (fun _ _ _ h => h.elim) _ listed a w (fun j oj hj hji hun hno => ⟨Region.free_spec ho hc.1.2 j oj hj hji hun hno, fun w hw => ?_⟩) (by simpa using hc.1.1) hy hC
        (wpSch_to1 h12 hs s2 _ _ hk2 hend r _ _ _ hC hk h)
      simp only [lateD] at hw
      split at hw
      · rename_i hl
        have := hc.2 j (by simpa using hl)
        rw [hun, hj] at this
        simp only [Bool.false_eq_true, false_or] at this
        obtain ⟨e, he, hb⟩ := Array.any_eq_true'.1 this
        simp only [Bool.and_eq_true, beq_iff_eq] at hb
        exact absurd hb.2 (hno e he hb.1)
      · exact hw
    · cases hk
  | (false, i) :: r, listed, a, w, hC, hk, h => by
    simp only [schTo1] at hk
    split at hk
    · rename_i hc
      simp only [Bool.and_eq_true, Bool.not_eq_true'] at hc
      have hr : Region.ready md ops listed = [i] := by simpa using hc.1
      refine ⟨fun h0 => absurd (hr ▸ h0) (by simp), fun j hj => ?_⟩
      rw [hr] at hj
      have : j = i := by simpa using hj
      subst this
      exact wpOp_mono (fun a' w' h' => ⟨.inr (by simp only [lateD, hc.2]; exact h'.1), wpSch_to1 h12 hs s2 _ _ hk2 hend r _ _ _ h'.1 hk h'.2⟩) (wpOp_QF h)
    · cases hk
def schTo0 (md : Region.Mode) (ops : Array Oper) : List (Bool × Nat) → Array Bool → Option (Array Bool)
  | [], listed => some listed
  | (true, i) :: r, listed => if (Region.ready md ops listed).contains i && Region.free md ops listed i then schTo0 md ops r (listed.setIfInBounds i true) else none
  | (false, _) :: _, _ => none
theorem wpSch_to0 {C1 C2 : World → Prop} {KK : Act → World → Prop} {K : Act → World → Prop} {late : List Nat} (h12 : ∀ w, C1 w → C2 w) (hs : Region.noSelect ops = true) (fuel : Nat) (listed' : Array Bool)
    (hend : ∀ a w, K a w → wpAnyG P md ops (NoQ KK) (lateD late C1 C2) fuel listed' a w) :
    ∀ (steps : List (Bool × Nat)) (listed : Array Bool) (a : Act) (w : World), schTo0 md ops steps listed = some listed' → wpSch P ops C2 K steps a w → wpAnyG P md ops (NoQ KK) (lateD late C1 C2) (fuel + steps.length) listed a w
  | [], listed, a, w, hk, h => by
    injection hk with hk; subst hk
    exact hend a w h
  | (true, i) :: r, listed, a, w, hk, h => by
    simp only [schTo0] at hk
    split at hk
    · rename_i hc
      simp only [Bool.and_eq_true] at hc
      obtain ⟨o, v, ho, hy, hC, h⟩ := h
      refine wpAnyG_first (C := C2) ho (Region.noSelect_spec hs) (fun _ _ _ h => h.elim) _ listed a w (fun j oj hj hji hun hno => ⟨Region.free_spec ho hc.2 j oj hj hji hun hno, fun w hw => ?_⟩) (by simpa using hc.1) hy hC
        (wpSch_to0 h12 hs fuel _ hend r _ _ _ hk h)
      simp only [lateD] at hw
      split at hw
      · exact hw
      · exact h12 _ hw
    · cases hk
  | (false, _) :: _, _, _, _, hk, _ => by cases hk
def lateOf (s2 : List (Bool × Nat)) : List Nat := (s2.filter fun x => !x.1).map (·.2)
def schOkL (md : Region.Mode) (ops : Array Oper) (s0 s1 s2 : List (Bool × Nat)) (listed : Array Bool) : Bool :=
  match schTo0 md ops s0 listed with
  | some l0 => match schTo1 md ops (lateOf s2) s1 l0 with
    | some l => match schTo2 md ops (lateOf s2) s2 l with
      | some l2 => (Region.ready md ops l2).isEmpty
      | none => false
    | none => false
  | none => false
theorem wp_region_schL {id : Nat} {Q : Exit → Act → World → Prop} {C1 C2 : World → Prop} {a : Act} {w : World} (s0 s1 s2 : List (Bool × Nat)) (h12 : ∀ w, C1 w → C2 w) (hm : P.follows .mixedOrders = true) (hs : Region.noSelect ops = true) (hlen : s2.length + s1.length + s0.length = ops.size)
    (hk : schOkL .any ops s0 s1 s2 (Array.replicate ops.size false) = true) (h : wpSch P ops C2 (fun a w => C1 w ∧ wpSch P ops C1 (fun a w => C2 w ∧ wpSch P ops C2 (Q .normal) s2 a w) s1 a w) s0 a w.drew) : (Code.region id ops true).wp P Q a w := by
  refine Code.wp_mono (noQ_imp fun _ _ h => h) (wp_region_any hm (wpAny_of_G (D := lateD (lateOf s2) C1 C2) _ _ _ _ ?_))
  unfold schOkL at hk
  split at hk
  · rename_i l0 hl0
    split at hk
    · rename_i l1 hl1
      split at hk
      · rename_i l2 hl2
        have := wpSch_to0 (P := P) (md := .any) (late := lateOf s2) h12 hs (s2.length + s1.length) l0 (fun a w h => wpSch_to1 (P := P) (md := .any) h12 hs s2 _ _ hl2 (by simpa using hk) s1 _ a w h.1 hl1 h.2) s0 _ a w.drew hl0 h
        rw [hlen] at this
        exact this
      · cases hk
    · cases hk
  · cases hk
end
section
variable {α : Type} {P : Program} {w0 : World} {n : Nat} {S N H : Hp} {l : Fr} {ops : Array Oper} {C : World → Prop} {K : Act → World → Prop} {r : List (Bool × Nat)} {i : Nat}
theorem At.drawL {id : Nat} {Q : Exit → Act → World → Prop} (L2 : Hp) (s0 s1 s2 : List (Bool × Nat)) (h12 : ∀ e ∈ L2, e ∈ S ++ (N ++ H)) (hm : P.follows .mixedOrders = true) (hk : (Region.noSelect ops && (s2.length + s1.length + s0.length == ops.size) && schOkL .any ops s0 s1 s2 (Array.replicate ops.size false)) = true)
    (h : At w0 n S l N H (wpSch P ops (Kept L2) (fun a w => Kept (S ++ (N ++ H)) w ∧ wpSch P ops (Kept (S ++ (N ++ H))) (fun a w => Kept L2 w ∧ wpSch P ops (Kept L2) (Q .normal) s2 a w) s1 a w) s0)) : At w0 n S l N H ((Code.region id ops true).wp P Q) := fun a w ha hw => by
  simp only [Bool.and_eq_true] at hk
  exact wp_region_schL s0 s1 s2 (fun w hw e he => hw e (h12 e he)) hm hk.1.1 (by simpa using hk.1.2) hk.2 (h a w.drew ha hw.drew)
theorem At.stage {C' : World → Prop} {s2 : List (Bool × Nat)} (hC : Cl w0 S N H C') (h : At w0 n S l N H (wpSch P ops C' K s2)) : At w0 n S l N H (wpSch P ops C (fun a w => C' w ∧ wpSch P ops C' K s2 a w) []) := fun a w ha hw => ⟨hC w hw, h a w ha hw⟩
theorem At.sliceForm {X : Act → World → Prop} {v : Value} {sz m : Nat} {xs : List Value} (hr : RdIn (fun w => St w0 w S N H) v sz m xs) (h : ∀ A cap, v = .slice A m cap → m ≤ cap → (0 < m → ∃ b o, A = some ⟨b, o, none⟩) → At w0 n S l N H X) : At w0 n S l N H X := fun a w ha hw => by
  obtain ⟨A, cap, hv, h1, h2, h3, h4⟩ := hr w hw
  exact h A cap hv h1 (fun hm => by obtain ⟨b, o, hA, _⟩ := h4 hm; exact ⟨b, o, hA⟩) a w ha hw
theorem At.rowForm {X : Act → World → Prop} {v : Value} {E : TypeId} {sz m : Nat} {xs : List Value} (hm : Ent.row v E sz m xs ∈ S ++ (N ++ H)) (h0 : 0 < m) (h : ∀ g cap, v = .slice (some ⟨g, 0, none⟩) m cap → At w0 n S l N H X) : At w0 n S l N H X := fun a w ha hw => by
  have := Holds.st hm w hw
  obtain ⟨_, ⟨_, rfl⟩ | ⟨g, cap, cur, hv, _⟩⟩ := this
  · exact absurd h0 (Nat.lt_irrefl _)
  · exact h g cap hv a w ha hw
theorem setFrom_toList : ∀ (vs : List Value) (cs : Array Value) (j : Nat), (setFrom cs j vs).toList = setL cs.toList j vs
  | [], cs, j => rfl
  | v :: vs, cs, j => by rw [setFrom, setL, setFrom_toList vs]; simp
theorem setL_take : ∀ (vs cs : List Value) (j m : Nat), j + vs.length ≤ m → (setL cs j vs).take m = setL (cs.take m) j vs
  | [], cs, j, m, _ => rfl
  | v :: vs, cs, j, m, h => by
    simp only [List.length_cons] at h
    rw [setL, setL, setL_take vs _ _ _ (by omega), List.take_set]
theorem setFrom_size : ∀ (vs : List Value) (cs : Array Value) (j : Nat), (setFrom cs j vs).size = cs.size
  | [], cs, j => rfl
  | v :: vs, cs, j => by rw [setFrom, setFrom_size vs]; simp
theorem At.stRow {p x : Operand} {T ty : TypeId} {pos : String} {af : Array Edge} {gd : Option (Nat × Bool)} {k : Ek α} {E : TypeId} {g cap m : Nat} {j : Int} {xs : List α} {y : α} {u : Value} {N' H' : Hp} (ho : ops[i]? = some ⟨none, .store T p x, ty, pos, af, gd⟩)
    (hg : wantG ops l ⟨none, .store T p x, ty, pos, af, gd⟩ = some true) (hs : (P.info? T).map (·.size) = some k.sz) (hp0 : Ev n l true p (elemPtr (.slice (some ⟨g, 0, none⟩) m cap) (j.toNat * k.sz))) (hx : Ev n l true x u) (hy : u.cells = (k.enc y).toArray)
    (hu : Up N H (.row (.slice (some ⟨g, 0, none⟩) m cap) E k.sz m (k.all xs)) (.row (.slice (some ⟨g, 0, none⟩) m cap) E k.sz m (k.all (xs.set j.toNat y))) N' H') (hm0 : xs.length = m) (hj : 0 ≤ j ∧ j < m)
    (h : Cl w0 S N' H' C ∧ At w0 n S l N' H' (wpSch P ops C K r)) : At w0 n S l N H (wpSch P ops C K ((false, i) :: r)) :=
  At.eW (d := none) ho hg fun a w ha hw => by
    subst hm0
    have hp : Ev n l true p (.pointer (some ⟨g, 0 + j.toNat * k.sz, none⟩)) := by simpa [elemPtr, add_addr] using hp0
    have hm : Ent.row (.slice (some ⟨g, 0, none⟩) xs.length cap) E k.sz xs.length (k.all xs) ∈ N ++ H := by cases hu with | n hl => exact List.mem_append_left _ hl.mem | h hl => exact List.mem_append_right _ hl.mem
    have hrow := hw.has _ hm
    obtain ⟨hlen, ⟨h1, _⟩ | ⟨g', cap', cur, hv, hb, hgb, hnc, hcm, hcs, htake⟩⟩ := hrow
    · cases h1
    · simp only [Value.slice.injEq, Option.some.injEq, Addr.mk.injEq, and_true, true_and] at hv
      obtain ⟨rfl, rfl⟩ := hv
      have hjn : j.toNat < xs.length := by omega
      have hle : j.toNat * k.sz + k.sz ≤ xs.length * k.sz := by rw [← Nat.succ_mul]; exact Nat.mul_le_mul_right _ hjn
      have hcap : xs.length * k.sz ≤ cap * k.sz := Nat.mul_le_mul_right _ hnc
      obtain ⟨w', h2, h3, h4, h5, h6, h7, h8⟩ := run_storeCells P (E := E) (k.enc y) 0 (0 + j.toNat * k.sz) w cur hgb (by rw [k.len, hcs]; omega) (k.one y)
      have hrun : (execOp a.eval ⟨none, .store T p x, ty, pos, af, gd⟩).run P w = .ok .skip w' := by
        have e1 : (k.enc y).toArray.size = k.sz := by simp [k.len]
        simp [execOp, hp rfl a ha, hx rfl a ha, Instr.storeAt, Instr.sureAddr, storeVar, run_sizeOf hs, hy, e1]
        simp only [Nat.zero_add] at h2
        rw [h2]; rfl
      unfold Oper.wp
      rw [hrun, Oper.upon_skip]
      have hown : (Ent.row (.slice (some ⟨g, 0, none⟩) xs.length cap) E k.sz xs.length (k.all (xs.set j.toNat y))).holds w' := by
        refine ⟨by rw [k.all_length, List.length_set], .inr ⟨g, cap, _, rfl, hb, h3, hnc, hcm, by rw [setFrom_size]; exact hcs, ?_⟩⟩
        rw [setFrom_toList, setL_take _ _ _ _ (by rw [k.len]; omega), htake, ← k.all_set xs j.toNat y hjn]
        simp
      have := hw.upd hu rfl hown h4 h5 h6 (by omega) fun q _ hq => h8 q fun e => hq (by rw [e]; rfl)
      exact ⟨h.1 _ this, h.2 _ _ ha this⟩
theorem R.indexSlE {g : Bool} {d : Option Tmp} {ty : TypeId} {pos : String} {af : Array Edge} {gd : Option (Nat × Bool)} {x y : Operand} {T E b o len cap m : Nat} {k : IntKind} {j : Int} (hT : P.underlying T = some (.slice E)) (hs : (P.info? E).map (·.size) = some m) (hx : Ev n l g x (.slice (some ⟨b, o, none⟩) len cap)) (hy : Ev n l g y (.int k j))
    (hj : g = true → 0 ≤ j ∧ j < len) : RunsC P n l C g ⟨d, .indexAddr T x y, ty, pos, af, gd⟩ (elemPtr (.slice (some ⟨b, o, none⟩) len cap) (j.toNat * m)) := fun hg a w ha hw => by
  have := R.indexSl (P := P) (C := C) (d := d) (ty := ty) (pos := pos) (af := af) (gd := gd) hT hs hx hy hj hg a w ha hw
  simpa [elemPtr, add_addr] using this
theorem Cl.none : Cl w0 S N H (Kept []) := fun _ _ _ h => nomatch h
theorem At.callVF {d : Nat} {fx : Operand} {xs : List Operand} {ats : Array TypeId} {ty : TypeId} {pos : String} {af : Array Edge} {gd : Option (Nat × Bool)} {g : Bool} {f : FuncId} {fst cap : List Value} {vs args : List Value} {S' : Hp} {v0 : Value}
    (ho : ops[i]? = some ⟨some d, .call { callee := .value fx, args := xs.toArray, argTypes := ats }, ty, pos, af, gd⟩) (hdn : Nat.blt d n = true) (hg : wantG ops l ⟨some d, .call { callee := .value fx, args := xs.toArray, argTypes := ats }, ty, pos, af, gd⟩ = some g)
    (hf : Ev n l g fx (.func (.func f) fst.toArray cap.toArray)) (hxs : Evs n l g xs vs) (hargs : fst ++ vs ++ cap = args) (hS : Rds (fun w => St w0 w S N H) S') (hc : g = true → Fn P f args S' [] (IsV v0)) (hC : Cl w0 S N H C)
    (h : At w0 n S ((d, g, v0) :: l) N H (wpSch P ops C K r)) : At w0 n S l N H (wpSch P ops C K ((false, i) :: r)) :=
  At.callG ho hdn hg hf hxs hargs hc hS.all (fun _ _ _ _ hR => ⟨hR.2.2, hR.1⟩) hC h
end
section
variable {P : Program} {w0 : World} {n : Nat} {S N H : Hp} {l : Fr} {Q : Exit → Act → World → Prop}
def Mid1 (w0 : World) (n : Nat) (S : Hp) {β0 : Type} (I : β0 → Prop) (L : β0 → Fr) (NN HH : β0 → Hp) : Act → World → Prop := fun a w => ∃ x0, I x0 ∧ Fk n (L x0) a ∧ St w0 w S (NN x0) (HH x0)
theorem At.cut1 {β0 : Type} (I : β0 → Prop) (L : β0 → Fr) (NN HH : β0 → Hp) {c : Code} {K : Act → World → Prop} (h1 : At w0 n S l N H (c.wp P (Exit.then (Mid1 w0 n S I L NN HH) Q))) (h2 : ∀ (x0 : β0), I x0 → At w0 n S (L x0) (NN x0) (HH x0) K) : At w0 n S l N H (c.wp P (Exit.then K Q)) := fun a w ha hw => by
  refine Code.wp_mono ?_ (h1 a w ha hw)
  rintro e a' w' h
  cases e with
  | normal => obtain ⟨x0, hI, k1, k2⟩ := h; exact h2 x0 hI a' w' k1 k2
  | _ => exact h
theorem At.mid1 {β0 : Type} {I : β0 → Prop} {L : β0 → Fr} {NN HH : β0 → Hp} (x0 : β0) (hI : I x0) (hl : Sub l (L x0)) (hN : (NN x0).Sublist N) (hH : HH x0 = H) : At w0 n S l N H (Mid1 w0 n S I L NN HH) := fun a w ha hw => by
  subst hH
  exact ⟨x0, hI, ha.weak hl.look, hw.forget hN⟩
def Mid2 (w0 : World) (n : Nat) (S : Hp) {β0 β1 : Type} (I : β0 → β1 → Prop) (L : β0 → β1 → Fr) (NN HH : β0 → β1 → Hp) : Act → World → Prop := fun a w => ∃ x0 x1, I x0 x1 ∧ Fk n (L x0 x1) a ∧ St w0 w S (NN x0 x1) (HH x0 x1)
theorem At.cut2 {β0 β1 : Type} (I : β0 → β1 → Prop) (L : β0 → β1 → Fr) (NN HH : β0 → β1 → Hp) {c : Code} {K : Act → World → Prop} (h1 : At w0 n S l N H (c.wp P (Exit.then (Mid2 w0 n S I L NN HH) Q))) (h2 : ∀ (x0 : β0) (x1 : β1), I x0 x1 → At w0 n S (L x0 x1) (NN x0 x1) (HH x0 x1) K) : At w0 n S l N H (c.wp P (Exit.then K Q)) := fun a w ha hw => by
  refine Code.wp_mono ?_ (h1 a w ha hw)
  rintro e a' w' h
  cases e with
  | normal => obtain ⟨x0, x1, hI, k1, k2⟩ := h; exact h2 x0 x1 hI a' w' k1 k2
  | _ => exact h
theorem At.mid2 {β0 β1 : Type} {I : β0 → β1 → Prop} {L : β0 → β1 → Fr} {NN HH : β0 → β1 → Hp} (x0 : β0) (x1 : β1) (hI : I x0 x1) (hl : Sub l (L x0 x1)) (hN : (NN x0 x1).Sublist N) (hH : HH x0 x1 = H) : At w0 n S l N H (Mid2 w0 n S I L NN HH) := fun a w ha hw => by
  subst hH
  exact ⟨x0, x1, hI, ha.weak hl.look, hw.forget hN⟩
def Mid3 (w0 : World) (n : Nat) (S : Hp) {β0 β1 β2 : Type} (I : β0 → β1 → β2 → Prop) (L : β0 → β1 → β2 → Fr) (NN HH : β0 → β1 → β2 → Hp) : Act → World → Prop := fun a w => ∃ x0 x1 x2, I x0 x1 x2 ∧ Fk n (L x0 x1 x2) a ∧ St w0 w S (NN x0 x1 x2) (HH x0 x1 x2)
theorem At.cut3 {β0 β1 β2 : Type} (I : β0 → β1 → β2 → Prop) (L : β0 → β1 → β2 → Fr) (NN HH : β0 → β1 → β2 → Hp) {c : Code} {K : Act → World → Prop} (h1 : At w0 n S l N H (c.wp P (Exit.then (Mid3 w0 n S I L NN HH) Q))) (h2 : ∀ (x0 : β0) (x1 : β1) (x2 : β2), I x0 x1 x2 → At w0 n S (L x0 x1 x2) (NN x0 x1 x2) (HH x0 x1 x2) K) : At w0 n S l N H (c.wp P (Exit.then K Q)) := fun a w ha hw => by
  refine Code.wp_mono ?_ (h1 a w ha hw)
  rintro e a' w' h
  cases e with
  | normal => obtain ⟨x0, x1, x2, hI, k1, k2⟩ := h; exact h2 x0 x1 x2 hI a' w' k1 k2
  | _ => exact h
theorem At.mid3 {β0 β1 β2 : Type} {I : β0 → β1 → β2 → Prop} {L : β0 → β1 → β2 → Fr} {NN HH : β0 → β1 → β2 → Hp} (x0 : β0) (x1 : β1) (x2 : β2) (hI : I x0 x1 x2) (hl : Sub l (L x0 x1 x2)) (hN : (NN x0 x1 x2).Sublist N) (hH : HH x0 x1 x2 = H) : At w0 n S l N H (Mid3 w0 n S I L NN HH) := fun a w ha hw => by
  subst hH
  exact ⟨x0, x1, x2, hI, ha.weak hl.look, hw.forget hN⟩
def Mid4 (w0 : World) (n : Nat) (S : Hp) {β0 β1 β2 β3 : Type} (I : β0 → β1 → β2 → β3 → Prop) (L : β0 → β1 → β2 → β3 → Fr) (NN HH : β0 → β1 → β2 → β3 → Hp) : Act → World → Prop := fun a w => ∃ x0 x1 x2 x3, I x0 x1 x2 x3 ∧ Fk n (L x0 x1 x2 x3) a ∧ St w0 w S (NN x0 x1 x2 x3) (HH x0 x1 x2 x3)
theorem At.cut4 {β0 β1 β2 β3 : Type} (I : β0 → β1 → β2 → β3 → Prop) (L : β0 → β1 → β2 → β3 → Fr) (NN HH : β0 → β1 → β2 → β3 → Hp) {c : Code} {K : Act → World → Prop} (h1 : At w0 n S l N H (c.wp P (Exit.then (Mid4 w0 n S I L NN HH) Q))) (h2 : ∀ (x0 : β0) (x1 : β1) (x2 : β2) (x3 : β3), I x0 x1 x2 x3 → At w0 n S (L x0 x1 x2 x3) (NN x0 x1 x2 x3) (HH x0 x1 x2 x3) K) : At w0 n S l N H (c.wp P (Exit.then K Q)) := fun a w ha hw => by
  refine Code.wp_mono ?_ (h1 a w ha hw)
  rintro e a' w' h
  cases e with
  | normal => obtain ⟨x0, x1, x2, x3, hI, k1, k2⟩ := h; exact h2 x0 x1 x2 x3 hI a' w' k1 k2
  | _ => exact h
theorem At.mid4 {β0 β1 β2 β3 : Type} {I : β0 → β1 → β2 → β3 → Prop} {L : β0 → β1 → β2 → β3 → Fr} {NN HH : β0 → β1 → β2 → β3 → Hp} (x0 : β0) (x1 : β1) (x2 : β2) (x3 : β3) (hI : I x0 x1 x2 x3) (hl : Sub l (L x0 x1 x2 x3)) (hN : (NN x0 x1 x2 x3).Sublist N) (hH : HH x0 x1 x2 x3 = H) : At w0 n S l N H (Mid4 w0 n S I L NN HH) := fun a w ha hw => by
  subst hH
  exact ⟨x0, x1, x2, x3, hI, ha.weak hl.look, hw.forget hN⟩
end
end Go.Proofs.YtbolanigdkgbdaaGreat
namespace Go.Proofs.YtbolanigdkgbdaaGreat
open Go Go.RowKit
set_option linter.unusedSectionVars false
variable [Df]
set_option linter.unusedVariables false
variable {κ α : Type}
def mEs (kf : κ → Value) (vf : α → Value) : Nat → List (κ × α) → List MapEntry
  | _, [] => []
  | b, x :: r => { key := kf x.1, val := vf x.2, born := b } :: mEs kf vf (b + 1) r
abbrev mapE (kf : κ → Value) (vf : α → Value) (b : Nat) (l : List (κ × α)) : Ent := .blk b (.map (mEs kf vf 0 l).toArray l.length)
theorem mEs_get (kf : κ → Value) (vf : α → Value) : ∀ (l : List (κ × α)) (b i : Nat), (mEs kf vf b l)[i]? = (l[i]?).map fun x => { key := kf x.1, val := vf x.2, born := b + i }
  | [], _, _ => by simp [mEs]
  | x :: r, b, 0 => by simp [mEs]
  | x :: r, b, i + 1 => by
    simp only [mEs, List.getElem?_cons_succ, mEs_get kf vf r (b + 1) i]
    congr 1
    funext x
    congr 1
    omega
theorem mEs_append (kf : κ → Value) (vf : α → Value) (x : κ × α) : ∀ (l : List (κ × α)) (b : Nat), mEs kf vf b (l ++ [x]) = mEs kf vf b l ++ [{ key := kf x.1, val := vf x.2, born := b + l.length }]
  | [], b => by simp [mEs]
  | y :: r, b => by
    simp only [List.cons_append, mEs, mEs_append kf vf x r (b + 1), List.length_cons]
    congr 4
    omega
theorem mEs_modify (kf : κ → Value) (vf : α → Value) (l : List (κ × α)) (j : Nat) (k : κ) (v : α) :
    (mEs kf vf 0 l).toArray.modify j (fun e => { e with key := kf k, val := vf v }) = (mEs kf vf 0 (l.set j (k, v))).toArray := by
  apply Array.ext_getElem?
  intro i
  simp only [Array.getElem?_modify, List.getElem?_toArray, mEs_get, List.getElem?_set]
  by_cases h : j = i
  · subst h
    simp only [if_true]
    cases hl : l[j]? with
    | none => have := List.getElem?_eq_none_iff.1 hl; simp; omega
    | some x => have := (List.getElem?_eq_some_iff.1 hl).1; simp [this]
  · simp [h]
section
variable {P : Program} {w0 : World} {n : Nat} {S N H : Hp} {l : Fr} {ops : Array Oper} {C : World → Prop} {K : Act → World → Prop} {r : List (Bool × Nat)} {i : Nat}
theorem At.makeMap {d : Nat} {T ty : TypeId} {pos : String} {af : Array Edge} {gd : Option (Nat × Bool)} (kf : κ → Value) (vf : α → Value) (ho : ops[i]? = some ⟨some d, .makeMap T none, ty, pos, af, gd⟩) (hdn : Nat.blt d n = true)
    (hg : wantG ops l ⟨some d, .makeMap T none, ty, pos, af, gd⟩ = some true)
    (h : ∀ b, w0.heap.size ≤ b → Cl w0 S (mapE kf vf b [] :: N) H C ∧ At w0 n S ((d, true, .map (some b)) :: l) (mapE kf vf b [] :: N) H (wpSch P ops C K r)) :
    At w0 n S l N H (wpSch P ops C K ((false, i) :: r)) :=
  At.eW (d := some d) ho hg fun a w ha hw => by
    unfold Oper.wp
    have hrun : (execOp a.eval ⟨some d, .makeMap T none, ty, pos, af, gd⟩).run P w = .ok (.value (.map (some w.heap.size))) (w.alloc (.map #[] 0)) := by
      simp [execOp, Instr.makeMap]
    rw [hrun, Oper.upon_value]
    obtain ⟨h1, h2⟩ := h w.heap.size hw.size
    have := hw.alloc (.map #[] 0)
    exact ⟨h1 _ this, h2 _ _ (ha.put (by simpa using hdn) rfl) this⟩
end
variable [DecidableEq κ]
def aidx : List (κ × α) → κ → Nat → Option (Nat × α)
  | [], _, _ => none
  | x :: r, k, i => if k = x.1 then some (i, x.2) else aidx r k (i + 1)
def aget (l : List (κ × α)) (k : κ) : Option α := (aidx l k 0).map (·.2)
def aput (l : List (κ × α)) (k : κ) (v : α) : List (κ × α) := match aidx l k 0 with
  | some (j, _) => l.set j (k, v)
  | none => l ++ [(k, v)]
theorem aidx_spec : ∀ (l : List (κ × α)) (k : κ) (i j : Nat) (v : α), aidx l k i = some (j, v) → i ≤ j ∧ l[j - i]? = some (k, v)
  | [], _, _, _, _, h => by simp [aidx] at h
  | x :: r, k, i, j, v, h => by
    simp only [aidx] at h
    split at h
    · rename_i e
      simp only [Option.some.injEq, Prod.mk.injEq] at h
      obtain ⟨rfl, rfl⟩ := h
      simp [e]
    · obtain ⟨h1, h2⟩ := aidx_spec r k (i + 1) j v h
      refine ⟨by omega, ?_⟩
      rw [show j - i = (j - (i + 1)) + 1 from by omega]
      simpa using h2
structure KeyOk (P : Program) (T : TypeId) (kf : κ → Value) : Prop where
  chk : ∀ em k w, (Instr.checkKey em 10000 T (kf k)).run P w = .ok () w
  find : ∀ (α : Type) (vf : α → Value) (k : κ) (l : List (κ × α)) (w : World), (Instr.findKey T (kf k) (mEs kf vf 0 l)).run P w = .ok ((aidx l k 0).map fun x => (x.1, vf x.2)) w
  bits : ∀ k, Instr.sameBits 10000 (kf k) (kf k) = true
theorem findNow_eq {d : TypeDesc} {kf : κ → Value} (vf : α → Value) (hs : ∀ a b : κ, Instr.sameNow d (kf a) (kf b) = some (decide (a = b))) (k : κ) : ∀ (l : List (κ × α)) (b i : Nat), Instr.findNow d (kf k) (mEs kf vf b l) i = some ((aidx l k i).map fun x => (x.1, vf x.2))
  | [], b, i => by simp [mEs, Instr.findNow, aidx]
  | x :: r, b, i => by
    simp only [mEs, Instr.findNow, hs, aidx]
    by_cases h : k = x.1
    · simp [h]
    · simp only [h, decide_false, if_false]
      exact findNow_eq vf hs k r (b + 1) (i + 1)
theorem keyOk_now {P : Program} {T : TypeId} {d : TypeDesc} {kf : κ → Value} (hT : P.underlying T = some d) (hc : ∀ em k w, (Instr.checkKey em 10000 T (kf k)).run P w = .ok () w) (hs : ∀ a b : κ, Instr.sameNow d (kf a) (kf b) = some (decide (a = b))) (hb : ∀ k, Instr.sameBits 10000 (kf k) (kf k) = true) : KeyOk P T kf :=
  ⟨hc, fun α vf k l w => MapKept.run_findKey hT (findNow_eq vf hs k l 0 0), hb⟩
abbrev kfZ : Int → Value := fun k => .int .i64 k
abbrev kfB : Bool → Value := fun k => .bool k
theorem keyOk_int {P : Program} {T : TypeId} (hT : P.underlying T = some (.int .i64)) : KeyOk P T kfZ :=
  keyOk_now hT (fun em k w => by rw [show (10000 : Nat) = 9999 + 1 from rfl, Instr.checkKey]; simp [run_underlying hT]) (fun a b => by simp [Instr.sameNow]; rfl) (fun k => by simp [Instr.sameBits])
theorem keyOk_bool {P : Program} {T : TypeId} (hT : P.underlying T = some .bool) : KeyOk P T kfB :=
  keyOk_now hT (fun em k w => by rw [show (10000 : Nat) = 9999 + 1 from rfl, Instr.checkKey]; simp [run_underlying hT]) (fun a b => by cases a <;> cases b <;> rfl) (fun k => by simp [Instr.sameBits])
section
variable {P : Program} {w0 : World} {n : Nat} {S N H : Hp} {l : Fr} {ops : Array Oper} {C : World → Prop} {K : Act → World → Prop} {r : List (Bool × Nat)} {i : Nat}
theorem At.mapUp {T kt et ty : TypeId} {pos : String} {af : Array Edge} {gd : Option (Nat × Bool)} {m x y : Operand} {kf : κ → Value} {vf : α → Value} {b : Nat} {ml : List (κ × α)} {k : κ} {v : α} {N' H' : Hp}
    (ho : ops[i]? = some ⟨none, .mapUpdate T m x y, ty, pos, af, gd⟩) (hg : wantG ops l ⟨none, .mapUpdate T m x y, ty, pos, af, gd⟩ = some true) (hT : P.underlying T = some (.map kt et)) (hk : KeyOk P kt kf)
    (hm : Ev n l true m (.map (some b))) (hx : Ev n l true x (kf k)) (hy : Ev n l true y (vf v)) (hu : Up N H (mapE kf vf b ml) (mapE kf vf b (aput ml k v)) N' H')
    (h : Cl w0 S N' H' C ∧ At w0 n S l N' H' (wpSch P ops C K r)) : At w0 n S l N H (wpSch P ops C K ((false, i) :: r)) :=
  At.eW (d := none) ho hg fun a w ha hw => by
    have hmem : mapE kf vf b ml ∈ N ++ H := by cases hu with | n hl => exact List.mem_append_left _ hl.mem | h hl => exact List.mem_append_right _ hl.mem
    have hb : w.heap[b]? = some (.map (mEs kf vf 0 ml).toArray ml.length) := hw.has _ hmem
    have hlt : b < w.heap.size := (Array.getElem?_eq_some_iff.1 hb).1
    have hrun : (execOp a.eval ⟨none, .mapUpdate T m x y, ty, pos, af, gd⟩).run P w = .ok .skip { w with heap := w.heap.setIfInBounds b (.map (mEs kf vf 0 (aput ml k v)).toArray (aput ml k v).length) } := by
      have hf := hk.find _ vf k ml w
      have hupd : (Instr.mapUpdate T (.map (some b)) (kf k) (vf v)).run P w = .ok () { w with heap := w.heap.setIfInBounds b (.map (mEs kf vf 0 (aput ml k v)).toArray (aput ml k v).length) } := by
        unfold aput
        cases hi : aidx ml k 0 with
        | none =>
          rw [hi] at hf
          simp only [Option.map_none] at hf
          have e1 : (mEs kf vf 0 (ml ++ [(k, v)])).toArray = (mEs kf vf 0 ml).toArray.push { key := kf k, val := vf v, born := ml.length } := by
            rw [mEs_append]; simp
          simp [Instr.mapUpdate, run_underlying hT, MapKept.run_getObj_map hb, hk.chk, hf, MapKept.run_setObj_map _ hb, Result.andThen, e1]
        | some jv =>
          obtain ⟨j, u⟩ := jv
          rw [hi] at hf
          simp only [Option.map_some] at hf
          obtain ⟨h1, h2⟩ := aidx_spec ml k 0 j u hi
          simp only [Nat.sub_zero] at h2
          have e1 : (mEs kf vf 0 ml)[j]? = some { key := kf k, val := vf u, born := 0 + j } := by rw [mEs_get, h2]; rfl
          have e2 := mEs_modify kf vf ml j k v
          simp at e2
          have e3 : (Instr.keyThatStays (kf k) (kf k)).run P w = .ok (kf k) w := by simp [Instr.keyThatStays, hk.bits]
          simp [Instr.mapUpdate, run_underlying hT, MapKept.run_getObj_map hb, hk.chk, hf, MapKept.run_setObj_map _ hb, Result.andThen, e1, e3, e2]
      simp [execOp, hm rfl a ha, hx rfl a ha, hy rfl a ha, hupd]
    unfold Oper.wp
    rw [hrun, Oper.upon_skip]
    have := hw.upd (w' := { w with heap := w.heap.setIfInBounds b (.map (mEs kf vf 0 (aput ml k v)).toArray (aput ml k v).length) }) hu rfl (show (Ent.blk b (.map (mEs kf vf 0 (aput ml k v)).toArray (aput ml k v).length)).holds _ from by simp [Ent.holds, hlt]) rfl rfl rfl (by simp) fun q _ hq => by
      have : b ≠ q := fun e => hq (by rw [e]; rfl)
      simp [this]
    exact ⟨h.1 _ this, h.2 _ _ ha this⟩
def agetV (vf : α → Value) (z : Value) (l : List (κ × α)) (k : κ) : Value := match aget l k with
  | some v => vf v
  | none => z
theorem R.lookup {g : Bool} {d : Option Tmp} {T kt et ty : TypeId} {pos : String} {af : Array Edge} {gd : Option (Nat × Bool)} {m x : Operand} {kf : κ → Value} {vf : α → Value} {b : Nat} {ml : List (κ × α)} {k : κ} {z : Value} (hT : P.underlying T = some (.map kt et)) (hk : KeyOk P kt kf) (hz : (P.info? et).bind (·.zero) = some z)
    (hm : Ev n l g m (.map (some b))) (hx : Ev n l g x (kf k)) (hE : ∀ w, C w → (mapE kf vf b ml).holds w) : RunsC P n l C g ⟨d, .lookup T m x false, ty, pos, af, gd⟩ (agetV vf z ml k) := fun hg a w ha hw => by
  have hb : w.heap[b]? = some (.map (mEs kf vf 0 ml).toArray ml.length) := hE w hw
  have hf := hk.find _ vf k ml w
  have hzv : (zeroValue et).run P w = .ok z w := by
    cases hi : P.info? et with
    | none => rw [hi] at hz; cases hz
    | some inf => rw [hi] at hz; simp at hz; simp [zeroValue, typeInfo, hi, hz]
  unfold agetV aget
  cases hi : aidx ml k 0 with
  | none =>
    rw [hi] at hf
    simp only [Option.map_none] at hf
    simp [execOp, hm.eq hg ha, hx.eq hg ha, Instr.lookup, run_underlying hT, MapKept.run_getObj_map hb, hk.chk, hf, hzv]
  | some jv =>
    rw [hi] at hf
    simp only [Option.map_some] at hf
    simp [execOp, hm.eq hg ha, hx.eq hg ha, Instr.lookup, run_underlying hT, MapKept.run_getObj_map hb, hk.chk, hf]
end
def k2 (k : Int × Int) : List Value := [.int .i64 k.1, .int .i64 k.2]
section
variable {P : Program} {w0 : World} {n : Nat} {S N H : Hp} {l : Fr} {C : World → Prop}
theorem At.rowForm2 {X : Act → World → Prop} {v : Value} {E : TypeId} {sz m : Nat} {xs : List Value} (hm : Ent.row v E sz m xs ∈ S ++ (N ++ H)) (h0 : 0 < m) (h : ∀ g cap, v = .slice (some ⟨g, 0, none⟩) m cap → m ≤ cap → At w0 n S l N H X) : At w0 n S l N H X := fun a w ha hw => by
  have := Holds.st hm w hw
  obtain ⟨_, ⟨_, rfl⟩ | ⟨g, cap, cur, hv, _, _, hc, _⟩⟩ := this
  · exact absurd h0 (Nat.lt_irrefl _)
  · exact h g cap hv hc a w ha hw
theorem R.sliceHi {g0 : Bool} {d : Option Tmp} {x o : Operand} {T ty : TypeId} {pos : String} {af : Array Edge} {gd : Option (Nat × Bool)} {e sz m hi g cap : Nat} (hT : P.underlying T = some (.slice e)) (hs : (P.info? e).map (·.size) = some sz)
    (hx : Ev n l g0 x (.slice (some ⟨g, 0, none⟩) m cap)) (hh : Ev n l g0 o (.int .i64 hi)) (hb : g0 = true → hi ≤ cap) : RunsC P n l C g0 ⟨d, .slice T x none (some o) none, ty, pos, af, gd⟩ (.slice (some ⟨g, 0, none⟩) hi cap) := fun hg a w ha _ => by
  have h2 := hb hg
  by_cases hc : cap = 0
  · simp [execOp, hx.eq hg ha, hh.eq hg ha, Instr.sliceAt, Instr.slice, run_underlying hT, Instr.sliceBounds, Instr.sliceBound, asIntOf, run_sizeOf hs, hc]
    omega
  · simp [execOp, hx.eq hg ha, hh.eq hg ha, Instr.sliceAt, Instr.slice, run_underlying hT, Instr.sliceBounds, Instr.sliceBound, asIntOf, run_sizeOf hs, h2, hc, add_addr]
end
structure Cel where
  state : Int
  key : Int
  data : Int
instance : Inhabited Cel := ⟨⟨0, 0, 0⟩⟩
theorem Cel.ext' {a b : Cel} (h1 : a.state = b.state) (h2 : a.key = b.key) (h3 : a.data = b.data) : a = b := by cases a; cases b; simp_all
instance : DecidableEq Cel := fun a b => if h : a.state = b.state ∧ a.key = b.key ∧ a.data = b.data then isTrue (Cel.ext' h.1 h.2.1 h.2.2) else isFalse fun e => h (by subst e; exact ⟨rfl, rfl, rfl⟩)
abbrev cellK : Ek Cel := ⟨fun x => [.int .i64 x.state, .int .i64 x.key, .int .i64 x.data], 3, fun _ => rfl, fun _ v hv => by
  simp at hv; rcases hv with rfl | rfl | rfl <;> rfl⟩
theorem cellK_eqb {x y : Cel} : ((x.state == y.state) && ((x.key == y.key) && ((x.data == y.data) && true))) = decide (x = y) := by
  rw [Bool.eq_iff_iff]; simp; exact ⟨fun ⟨h1, h2, h3⟩ => Cel.ext' h1 h2 h3, fun e => by subst e; exact ⟨rfl, rfl, rfl⟩⟩
end Go.Proofs.YtbolanigdkgbdaaGreat
namespace Go.Proofs.YtbolanigdkgbdaaGreat
open Go Go.RowKit
set_option linter.unusedSectionVars false
variable [Df]
set_option linter.unusedVariables false
theorem St.perm {w0 w : World} {S N N' H : Hp} (h : St w0 w S N H) (hp : N.Perm N') : St w0 w S N' H := by
  have h1 : (N ++ H).Perm (N' ++ H) := hp.append_right H
  have hk : (keys (N ++ H)).Perm (keys (N' ++ H)) := h1.filterMap _
  exact ⟨h.os, h.tape, h.output, h.size, fun e he => h.has e (h1.mem_iff.2 he), h.hasS, hk.nodup_iff.1 h.nodup, fun k hkS hm => h.apart k hkS (hk.mem_iff.2 hm), fun e he => h.fresh e (hp.mem_iff.2 he), h.old⟩
theorem At.perm {w0 : World} {n : Nat} {S N N' H : Hp} {l : Fr} {X : Act → World → Prop} (hp : N.Perm N') (h : At w0 n S l N' H X) : At w0 n S l N H X := fun a w ha hw => h a w ha (hw.perm hp)
theorem At.fewer {w0 : World} {n : Nat} {S N N1 N' H : Hp} {l : Fr} {X : Act → World → Prop} (hs : N1.Sublist N) (hp : N1.Perm N') (h : At w0 n S l N' H X) : At w0 n S l N H X := fun a w ha hw => h a w ha ((hw.forget hs).perm hp)
abbrev SV := { v : Value // v.oneCell' = true }
instance : Inhabited SV := ⟨⟨.bool false, rfl⟩⟩
abbrev sK : Ek SV := ⟨fun x => [x.1], 1, fun _ => rfl, fun x v hv => by
  simp at hv; subst hv; exact x.2⟩
abbrev seg {α : Type} (k : Ek α) (E : TypeId) (gs : List (SV × List α)) : Hp := gs.map fun x => rowE k E x.1.1 x.2
theorem perm_set {α : Type} : ∀ (l : List α) (i : Nat) (x : α), i < l.length → (x :: l.eraseIdx i).Perm (l.set i x)
  | [], i, x, h => absurd h (Nat.not_lt_zero _)
  | y :: l, 0, x, _ => by simp
  | y :: l, i + 1, x, h => by
    simp only [List.eraseIdx_cons_succ, List.set_cons_succ]
    exact (List.Perm.swap y x _).trans ((perm_set l i x (by simpa using h)).cons y)
theorem At.rowOne {w0 : World} {n : Nat} {S N H : Hp} {l : Fr} {X : Act → World → Prop} {v : Value} {E : TypeId} {sz m : Nat} {xs : List Value} (hm : Ent.row v E sz m xs ∈ S ++ (N ++ H)) (h : v.oneCell' = true → At w0 n S l N H X) : At w0 n S l N H X := fun a w ha hw => by
  have := Holds.st hm w hw
  obtain ⟨_, ⟨rfl, _⟩ | ⟨g, cap, cur, rfl, _⟩⟩ := this <;> exact h rfl a w ha hw
end Go.Proofs.YtbolanigdkgbdaaGreat
namespace Go.Proofs.YtbolanigdkgbdaaGreat
open Go Go.RowKit
set_option linter.unusedSectionVars false
variable [Df]
set_option linter.unusedVariables false
variable {α : Type}
theorem gE_map {β : Type} [Inhabited α] [Inhabited β] (f : α → β) (hf : f default = default) (l : List α) (j : Int) : gE (l.map f) j = f (gE l j) := by
  unfold gE
  rw [List.getD_eq_getElem?_getD, List.getD_eq_getElem?_getD, List.getElem?_map]
  cases l[j.toNat]? with
  | none => exact hf.symm
  | some x => rfl
theorem gE_replicate [Inhabited α] {n : Nat} {z : α} {j : Int} (h : 0 ≤ j ∧ j < n) : gE (List.replicate n z) j = z := by
  unfold gE
  rw [List.getD_eq_getElem?_getD, List.getElem?_replicate, if_pos (by omega)]; rfl
theorem Ek.made [Inhabited α] (k : Ek α) (z : α) {zc : Array Value} (hz : zc = (k.enc z).toArray) (h0 : 0 < k.sz) (n : Nat) : (madeCells zc (n * k.sz)).toList = k.all (List.replicate n z) := by
  have hs : zc.size = k.sz := by rw [hz]; simp [k.len]
  apply List.ext_getElem?
  intro j
  by_cases hj : j < n * k.sz
  · have hi : j / k.sz < n := by rw [Nat.div_lt_iff_lt_mul h0]; exact hj
    have hq : j % k.sz < (k.enc z).length := by rw [k.len]; exact Nat.mod_lt _ h0
    have h1 := Ek.all_get k (List.replicate n z) (j := ((j / k.sz : Nat) : Int)) (j % k.sz) (u := (k.enc z)[j % k.sz]'hq) (by rw [gE_replicate ⟨Int.natCast_nonneg _, Int.ofNat_lt.2 hi⟩]; exact List.getElem?_eq_getElem hq) ⟨Int.natCast_nonneg _, by rw [List.length_replicate]; exact Int.ofNat_lt.2 hi⟩
    rw [Int.toNat_natCast, show j / k.sz * k.sz + j % k.sz = j from by rw [Nat.mul_comm]; exact Nat.div_add_mod j k.sz] at h1
    rw [h1]
    simp only [madeCells, Array.toList_map, Array.toList_range, List.getElem?_map, List.getElem?_range hj, Option.map_some, hs]
    have hlt : j % k.sz < zc.size := by rw [hs]; exact Nat.mod_lt _ h0
    rw [getElem!_pos zc _ hlt]
    subst hz; simp
  · rw [List.getElem?_eq_none (by simp [madeCells]; omega), List.getElem?_eq_none (by rw [k.all_length, List.length_replicate]; omega)]
section
variable {P : Program} {w0 : World} {n : Nat} {S N H : Hp} {l : Fr} {ops : Array Oper} {C : World → Prop} {K : Act → World → Prop} {r : List (Bool × Nat)} {i : Nat}
theorem At.makeSl [Inhabited α] {d : Nat} {x y : Operand} {t ty : TypeId} {pos : String} {af : Array Edge} {gd : Option (Nat × Bool)} {e by' c : Nat} {k : Ek α} {z : α} {zv : Value}
    (ho : ops[i]? = some ⟨some d, .makeSlice t x y, ty, pos, af, gd⟩) (hdn : Nat.blt d n = true) (hg : wantG ops l ⟨some d, .makeSlice t x y, ty, pos, af, gd⟩ = some true)
    (ht : P.underlying t = some (.slice e)) (he : elemTab P e = some (k.sz, by')) (hz : (P.info? e).bind (·.zero) = some zv) (hzc : zv.cells = (k.enc z).toArray)
    (hx : Ev n l true x (.int .i64 c)) (hy : Ev n l true y (.int .i64 c)) (hb : by' * c ≤ 281474976710656 ∧ c * k.sz ≤ 16777216)
    (h : ∀ v', Cl w0 S (rowE k e v' (List.replicate c z) :: N) H C ∧ At w0 n S ((d, true, v') :: l) (rowE k e v' (List.replicate c z) :: N) H (wpSch P ops C K r)) : At w0 n S l N H (wpSch P ops C K ((false, i) :: r)) :=
  At.eW (d := some d) ho hg fun a w ha hw => by
    obtain ⟨inf, z0, h2, h3, h4, h5, h6, h7⟩ := elemTab_info he
    rw [h2] at hz
    have hzz : z0 = zv := by simpa [h3] using hz
    subst hzz
    have hm : c ≤ maxLen := by
      have : c * 1 ≤ c * k.sz := Nat.mul_le_mul_left _ h7
      simp only [maxLen]; omega
    obtain ⟨w', hrun, ho', hgr⟩ := run_makeSlice_full (P := P) w 0 t e inf z0 k.sz ht h2 h3 h4 .i64 .i64 c hb.2 (by rw [h5]; exact hb.1) hm (Nat.zero_le _)
    unfold Oper.wp
    have hrun' : (execOp a.eval ⟨some d, .makeSlice t x y, ty, pos, af, gd⟩).run P w = .ok (.value (.slice (some ⟨w.heap.size, 0, none⟩) c c)) w' := by
      simp [execOp, hx rfl a ha, hy rfl a ha, hrun]
    rw [hrun', Oper.upon_value]
    rw [k.made z hzc h7 c] at ho'
    have hrow : (rowE k e (.slice (some ⟨w.heap.size, 0, none⟩) c c) (List.replicate c z)).holds w' := by
      show w'.ownsRow 0 e k.sz _ (List.replicate c z).length _
      rw [List.length_replicate]; exact ho'
    have := hw.addN (w' := w') (e' := rowE k e (.slice (some ⟨w.heap.size, 0, none⟩) c c) (List.replicate c z)) (fun b hb' => by simp [Ent.key, Value.ownBlock] at hb'; omega) hrow hgr.os hgr.tape hgr.output hgr.size (fun b hb' => hgr.block b hb' (by simp))
    exact ⟨(h _).1 _ this, (h _).2 _ _ (ha.put (by simpa using hdn) rfl) this⟩
end
theorem cells_one {v : Value} (h : v.oneCell' = true) : v.cells = #[v] := by cases v <;> first | rfl | cases h
section
set_option linter.unusedSectionVars false
variable [Inhabited α] {P : Program} {w0 : World} {n : Nat} {S N H : Hp} {l : Fr} {X : Act → World → Prop} {k : Ek α} {E : TypeId} {gs : List (SV × List α)}
theorem gE_mem' {β : Type} [Inhabited β] {l : List β} {j : Int} (h : 0 ≤ j ∧ j < l.length) : gE l j ∈ l := by
  unfold gE; rw [List.getD_eq_getElem?_getD, List.getElem?_eq_getElem (by omega)]; exact List.getElem_mem _
theorem segS {j : Int} (hs : (seg k E gs).Sublist N) (hj : 0 ≤ j ∧ j < gs.length) : RdIn (fun w => St w0 w S N H) (gE gs j).1.1 k.sz (gE gs j).2.length (k.all (gE gs j).2) :=
  wS (E := E) (List.mem_append_right _ (List.mem_append_left _ (hs.subset (List.mem_map.2 ⟨gE gs j, gE_mem' hj, rfl⟩))))
theorem segGet {j : Int} (hj : 0 ≤ j ∧ j < gs.length) : (sK.all (gs.map (·.1)))[j.toNat * 1]? = some (gE gs j).1.1 := by
  have h := Ek.get0 (k := sK) (l := gs.map (·.1)) (j := j) (u := (gE (gs.map fun x : SV × List α => x.1) j).1) rfl (by simpa using hj)
  rw [gE_map (fun x : SV × List α => x.1) rfl] at h
  exact h
theorem At.segIn {A : Hp} {i : Nat} {v : SV} {xs : List α} (hi : i < gs.length) (h : At w0 n S l (A ++ seg k E (gs.set i (v, xs))) H X) : At w0 n S l (rowE k E v.1 xs :: (A ++ seg k E gs)) H X := by
  refine At.fewer (N1 := rowE k E v.1 xs :: (A ++ seg k E (gs.eraseIdx i))) ?_ ?_ h
  · exact List.Sublist.cons_cons _ ((List.Sublist.refl A).append ((List.eraseIdx_sublist gs i).map _))
  · have := (perm_set gs i (v, xs) hi).map (fun x => rowE k E x.1.1 x.2)
    exact (List.perm_middle.symm).trans (this.append_left A)
theorem At.segNew {A : Hp} {v : SV} {xs : List α} (h : At w0 n S l (A ++ seg k E (gs ++ [(v, xs)])) H X) : At w0 n S l (rowE k E v.1 xs :: (A ++ seg k E gs)) H X := by
  refine At.perm ?_ h
  have : (rowE k E v.1 xs :: seg k E gs).Perm (seg k E (gs ++ [(v, xs)])) := by
    simp only [seg, List.map_append, List.map_cons, List.map_nil]; exact (List.perm_append_singleton _ _).symm
  exact (List.perm_middle.symm).trans (this.append_left A)
end
section
set_option linter.unusedSectionVars false
variable [Inhabited α] {P : Program} {w0 : World} {n : Nat} {S N H : Hp} {l : Fr} {ops : Array Oper} {C : World → Prop} {K : Act → World → Prop} {r : List (Bool × Nat)} {i : Nat}
theorem At.stSeg {p x : Operand} {T ty : TypeId} {pos : String} {af : Array Edge} {gd : Option (Nat × Bool)} {Eo : TypeId} {g cap : Nat} {j : Int} {gs : List (SV × List α)} {xs : List α} {v' : Value} {N' : Hp} (ho : ops[i]? = some ⟨none, .store T p x, ty, pos, af, gd⟩)
    (hg : wantG ops l ⟨none, .store T p x, ty, pos, af, gd⟩ = some true) (hs : (P.info? T).map (·.size) = some 1) (hp0 : Ev n l true p (elemPtr (.slice (some ⟨g, 0, none⟩) (gs.map (·.1)).length cap) (j.toNat * 1))) (hx : Ev n l true x v') (h1 : v'.oneCell' = true)
    (hj : 0 ≤ j ∧ j < gs.length)
    (hu : UpL N (rowE sK Eo (.slice (some ⟨g, 0, none⟩) (gs.map (·.1)).length cap) (gs.map (·.1))) (rowE sK Eo (.slice (some ⟨g, 0, none⟩) (gs.map (·.1)).length cap) ((gs.set j.toNat (⟨v', h1⟩, xs)).map (·.1))) N')
    (h : Cl w0 S N' H C ∧ At w0 n S l N' H (wpSch P ops C K r)) : At w0 n S l N H (wpSch P ops C K ((false, i) :: r)) := by
  have e : (rowE sK Eo (.slice (some ⟨g, 0, none⟩) (gs.map (·.1)).length cap) ((gs.set j.toNat (⟨v', h1⟩, xs)).map (·.1))) = .row (.slice (some ⟨g, 0, none⟩) (gs.map (·.1)).length cap) Eo 1 (gs.map (·.1)).length (sK.all ((gs.map (·.1)).set j.toNat ⟨v', h1⟩)) := by
    rw [rowE, List.map_set, List.length_set]
  rw [e] at hu
  exact At.stRow (k := sK) (xs := gs.map (·.1)) (y := ⟨v', h1⟩) ho hg hs hp0 hx (cells_one h1) (.n hu) rfl (by simpa using hj) h
end
theorem Rds.ofNest {C : World → Prop} {k : Ek α} {gs : List (Value × List α)} {V : Value} (h0 : RdIn C V 1 gs.length (gs.map (·.1))) (h : ∀ x ∈ gs, RdIn C x.1 k.sz x.2.length (k.all x.2)) : Rds C (nest k V gs) := by
  refine Rds.cons h0 ?_
  clear h0
  induction gs with
  | nil => exact .nil
  | cons x gs ih => exact Rds.cons (h x (by simp)) (ih fun y hy => h y (by simp [hy]))
abbrev asN (gs : List (SV × List α)) : List (Value × List α) := gs.map fun x => (x.1.1, x.2)
theorem asN_fst (gs : List (SV × List α)) : (asN gs).map (·.1) = sK.all (gs.map (·.1)) := by
  induction gs with
  | nil => rfl
  | cons x gs ih => rw [List.map_cons, Ek.all_cons, ← ih]; rfl
theorem Rds.ofSeg {C : World → Prop} {k : Ek α} {Eo E : TypeId} {gs : List (SV × List α)} {V : Value} (h0 : RdIn C V 1 (gs.map (·.1)).length (sK.all (gs.map (·.1)))) (h : ∀ x ∈ gs, RdIn C x.1.1 k.sz x.2.length (k.all x.2)) : Rds C (nest k V (asN gs)) := by
  refine Rds.ofNest ?_ ?_
  · rw [asN_fst, List.length_map]; rwa [List.length_map] at h0
  · intro x hx
    obtain ⟨y, hy, rfl⟩ := List.mem_map.1 hx
    exact h y hy
end Go.Proofs.YtbolanigdkgbdaaGreat
namespace Go.Proofs.YtbolanigdkgbdaaGreat
open Go Go.RowKit
set_option linter.unusedSectionVars false
variable [Df]
set_option linter.unusedVariables false
inductive Br where
  | done
  | two (i j : Nat) (l1 : List (Bool × Nat)) (b1 : Br) (l2 : List (Bool × Nat)) (b2 : Br)
  | three (i j k : Nat) (l1 : List (Bool × Nat)) (b1 : Br) (l2 : List (Bool × Nat)) (b2 : Br) (l3 : List (Bool × Nat)) (b3 : Br)
def wpBr (P : Program) (ops : Array Oper) (C : World → Prop) (K : Act → World → Prop) : Br → Act → World → Prop
  | .done => K
  | .two i j l1 b1 l2 b2 => fun a w => wpSch P ops C (wpBr P ops C K b1) ((false, i) :: l1) a w ∧ wpSch P ops C (wpBr P ops C K b2) ((false, j) :: l2) a w
  | .three i j k l1 b1 l2 b2 l3 b3 => fun a w => wpSch P ops C (wpBr P ops C K b1) ((false, i) :: l1) a w ∧ wpSch P ops C (wpBr P ops C K b2) ((false, j) :: l2) a w ∧ wpSch P ops C (wpBr P ops C K b3) ((false, k) :: l3) a w
def brLen : Br → Nat → Bool
  | .done, n => n == 0
  | .two _ _ l1 b1 l2 b2, n => Nat.ble (l1.length + 1) n && Nat.ble (l2.length + 1) n && brLen b1 (n - (l1.length + 1)) && brLen b2 (n - (l2.length + 1))
  | .three _ _ _ l1 b1 l2 b2 l3 b3, n => Nat.ble (l1.length + 1) n && Nat.ble (l2.length + 1) n && Nat.ble (l3.length + 1) n && brLen b1 (n - (l1.length + 1)) && brLen b2 (n - (l2.length + 1)) && brLen b3 (n - (l3.length + 1))
def thenB (md : Region.Mode) (ops : Array Oper) (l : List (Bool × Nat)) (f : Array Bool → Bool) (listed : Array Bool) : Bool := match schTo md ops l listed with
  | some x => f x
  | none => false
def brOk (md : Region.Mode) (ops : Array Oper) : Br → Array Bool → Bool
  | .done, listed => (Region.ready md ops listed).isEmpty
  | .two i j l1 b1 l2 b2, listed => (Region.ready md ops listed == [i, j]) && thenB md ops l1 (brOk md ops b1) (listed.setIfInBounds i true) && thenB md ops l2 (brOk md ops b2) (listed.setIfInBounds j true)
  | .three i j k l1 b1 l2 b2 l3 b3, listed => (Region.ready md ops listed == [i, j, k]) && thenB md ops l1 (brOk md ops b1) (listed.setIfInBounds i true) && thenB md ops l2 (brOk md ops b2) (listed.setIfInBounds j true) && thenB md ops l3 (brOk md ops b3) (listed.setIfInBounds k true)
section
variable {P : Program} {ops : Array Oper} {C : World → Prop} {md : Region.Mode} {KK : Act → World → Prop}
theorem thenB_some {l : List (Bool × Nat)} {f : Array Bool → Bool} {listed : Array Bool} (h : thenB md ops l f listed = true) : ∃ x, schTo md ops l listed = some x ∧ f x = true := by
  unfold thenB at h
  split at h
  · rename_i x hx; exact ⟨x, hx, h⟩
  · cases h
theorem wpBr_to (hs : Region.noSelect ops = true) : ∀ (b : Br) (n : Nat) (listed : Array Bool) (a : Act) (w : World), C w → brLen b n = true → brOk md ops b listed = true → wpBr P ops C KK b a w → wpAnyH P md ops (NoQ KK) C n listed a w
  | .done, n, listed, a, w, hC, hn, hk, h => by
    have : n = 0 := by simpa [brLen] using hn
    subst this
    exact wpAnyH_done (by simpa [brOk] using hk) h 0
  | .two i j l1 b1 l2 b2, n, listed, a, w, hC, hn, hk, h => by
    simp only [brLen, Bool.and_eq_true, Nat.ble_eq] at hn
    simp only [brOk, Bool.and_eq_true, beq_iff_eq] at hk
    obtain ⟨⟨⟨n1, n2⟩, n3⟩, n4⟩ := hn
    obtain ⟨⟨k0, k1⟩, k2⟩ := hk
    obtain ⟨x1, s1, t1⟩ := thenB_some k1
    obtain ⟨x2, s2, t2⟩ := thenB_some k2
    obtain ⟨m, rfl⟩ : ∃ m, n = m + 1 := ⟨n - 1, by omega⟩
    refine wpAnyH_all k0 (by simp) fun q hq => ?_
    have hq' : q = i ∨ q = j := by simpa using hq
    rcases hq' with rfl | rfl
    · refine wpOp_mono (fun a' w' h' => ⟨h'.1, ?_⟩) (wpOp_QF h.1)
      have := wpSch_to (md := md) hs (m - l1.length) x1 (fun a w hC hh => wpBr_to hs b1 _ x1 a w hC (by have e : m - l1.length = m + 1 - (l1.length + 1) := by omega
                                                                                                        rw [e]; exact n3) t1 hh) l1 _ a' w' h'.1 s1 h'.2
      rwa [show m - l1.length + l1.length = m from by omega] at this
    · refine wpOp_mono (fun a' w' h' => ⟨h'.1, ?_⟩) (wpOp_QF h.2)
      have := wpSch_to (md := md) hs (m - l2.length) x2 (fun a w hC hh => wpBr_to hs b2 _ x2 a w hC (by have e : m - l2.length = m + 1 - (l2.length + 1) := by omega
                                                                                                        rw [e]; exact n4) t2 hh) l2 _ a' w' h'.1 s2 h'.2
      rwa [show m - l2.length + l2.length = m from by omega] at this
  | .three i j k l1 b1 l2 b2 l3 b3, n, listed, a, w, hC, hn, hk, h => by
    simp only [brLen, Bool.and_eq_true, Nat.ble_eq] at hn
    simp only [brOk, Bool.and_eq_true, beq_iff_eq] at hk
    obtain ⟨⟨⟨⟨⟨n1, n2⟩, n3⟩, n4⟩, n5⟩, n6⟩ := hn
    obtain ⟨⟨⟨k0, k1⟩, k2⟩, k3⟩ := hk
    obtain ⟨x1, s1, t1⟩ := thenB_some k1
    obtain ⟨x2, s2, t2⟩ := thenB_some k2
    obtain ⟨x3, s3, t3⟩ := thenB_some k3
    obtain ⟨m, rfl⟩ : ∃ m, n = m + 1 := ⟨n - 1, by omega⟩
    refine wpAnyH_all k0 (by simp) fun q hq => ?_
    have hq' : q = i ∨ q = j ∨ q = k := by simpa using hq
    rcases hq' with rfl | rfl | rfl
    · refine wpOp_mono (fun a' w' h' => ⟨h'.1, ?_⟩) (wpOp_QF h.1)
      have := wpSch_to (md := md) hs (m - l1.length) x1 (fun a w hC hh => wpBr_to hs b1 _ x1 a w hC (by have e : m - l1.length = m + 1 - (l1.length + 1) := by omega
                                                                                                        rw [e]; exact n4) t1 hh) l1 _ a' w' h'.1 s1 h'.2
      rwa [show m - l1.length + l1.length = m from by omega] at this
    · refine wpOp_mono (fun a' w' h' => ⟨h'.1, ?_⟩) (wpOp_QF h.2.1)
      have := wpSch_to (md := md) hs (m - l2.length) x2 (fun a w hC hh => wpBr_to hs b2 _ x2 a w hC (by have e : m - l2.length = m + 1 - (l2.length + 1) := by omega
                                                                                                        rw [e]; exact n5) t2 hh) l2 _ a' w' h'.1 s2 h'.2
      rwa [show m - l2.length + l2.length = m from by omega] at this
    · refine wpOp_mono (fun a' w' h' => ⟨h'.1, ?_⟩) (wpOp_QF h.2.2)
      have := wpSch_to (md := md) hs (m - l3.length) x3 (fun a w hC hh => wpBr_to hs b3 _ x3 a w hC (by have e : m - l3.length = m + 1 - (l3.length + 1) := by omega
                                                                                                        rw [e]; exact n6) t3 hh) l3 _ a' w' h'.1 s3 h'.2
      rwa [show m - l3.length + l3.length = m from by omega] at this
end
section
variable {P : Program} {w0 : World} {n : Nat} {S N H : Hp} {l : Fr} {ops : Array Oper} {X : Act → World → Prop} {C : World → Prop}
theorem At.drawB {id : Nat} {Q : Exit → Act → World → Prop} (pre : List (Bool × Nat)) (b : Br) (hm : P.follows .mixedOrders = true)
    (hk : (Region.noSelect ops && Nat.ble pre.length ops.size && brLen b (ops.size - pre.length) && thenB .any ops pre (brOk .any ops b) (Array.replicate ops.size false)) = true)
    (h : At w0 n S l N H (wpSch P ops (Kept (S ++ (N ++ H))) (wpBr P ops (Kept (S ++ (N ++ H))) (Q .normal) b) pre)) :
    At w0 n S l N H ((Code.region id ops true).wp P Q) := fun a w ha hw => by
  simp only [Bool.and_eq_true, Nat.ble_eq] at hk
  obtain ⟨⟨⟨h1, h2⟩, h3⟩, h4⟩ := hk
  refine Code.wp_mono (noQ_imp fun _ _ h => h) (wp_region_held (S := Kept (S ++ (N ++ H))) hm ?_)
  obtain ⟨x, s1, t1⟩ := thenB_some h4
  have := wpSch_to (P := P) (md := .any) h1 (ops.size - pre.length) x (fun a w hC hh => wpBr_to h1 b _ x a w hC h3 t1 hh) pre _ a w.drew (cl_here hw.drew ha) s1 (h a w.drew ha hw.drew)
  rwa [show ops.size - pre.length + pre.length = ops.size from by omega] at this
theorem At.joinB {β : Type} {b : Br} (L : β → Fr) (NN : β → Hp) (hK : ∀ x, At w0 n S (L x) (NN x) H X)
    (h : (∀ x (l' : Fr) (N' : Hp), (∀ t v, look (L x) t = some v → look l' t = some v) → (NN x).Sublist N' → At w0 n S l' N' H X) → At w0 n S l N H (wpBr P ops C X b)) : At w0 n S l N H (wpBr P ops C X b) :=
  h fun x _ _ hl hN => At.weak hl hN (hK x)
theorem At.two {i j : Nat} {l1 l2 : List (Bool × Nat)} {b1 b2 : Br} (h1 : At w0 n S l N H (wpSch P ops C (wpBr P ops C X b1) ((false, i) :: l1))) (h2 : At w0 n S l N H (wpSch P ops C (wpBr P ops C X b2) ((false, j) :: l2))) :
    At w0 n S l N H (wpBr P ops C X (.two i j l1 b1 l2 b2)) := At.both h1 h2
theorem At.three {i j k : Nat} {l1 l2 l3 : List (Bool × Nat)} {b1 b2 b3 : Br} (h1 : At w0 n S l N H (wpSch P ops C (wpBr P ops C X b1) ((false, i) :: l1))) (h2 : At w0 n S l N H (wpSch P ops C (wpBr P ops C X b2) ((false, j) :: l2)))
    (h3 : At w0 n S l N H (wpSch P ops C (wpBr P ops C X b3) ((false, k) :: l3))) : At w0 n S l N H (wpBr P ops C X (.three i j k l1 b1 l2 b2 l3 b3)) := At.both h1 (At.both h2 h3)
theorem At.brDone (h : At w0 n S l N H X) : At w0 n S l N H (wpBr P ops C X .done) := h
end
structure Chk where
  a0 : Int
  a1 : Int
  a2 : Int
  a3 : Int
  a4 : Int
  a5 : Int
  a6 : Int
  a7 : Int
  u : SV
instance : Inhabited Chk := ⟨⟨0, 0, 0, 0, 0, 0, 0, 0, ⟨.slice none 0 0, rfl⟩⟩⟩
abbrev chK : Ek Chk := ⟨fun x => [.int .i64 x.a0, .int .i64 x.a1, .int .i64 x.a2, .int .i64 x.a3, .int .i64 x.a4, .int .i64 x.a5, .int .i64 x.a6, .int .i64 x.a7, x.u.1], 9, fun _ => rfl, fun x v hv => by
  simp at hv; rcases hv with rfl | rfl | rfl | rfl | rfl | rfl | rfl | rfl | rfl
  all_goals first | rfl | exact x.u.2⟩
abbrev csg (E : TypeId) (cs : List (Chk × List Cel)) : Hp := cs.map fun x => rowE cellK E x.1.u.1 x.2
section
variable {w0 : World} {n : Nat} {S N H : Hp} {l : Fr} {X : Act → World → Prop} {E : TypeId} {cs : List (Chk × List Cel)}
theorem At.csNew {A : Hp} {x : Chk} {ys : List Cel} (h : At w0 n S l (A ++ csg E (cs ++ [(x, ys)])) H X) : At w0 n S l (rowE cellK E x.u.1 ys :: (A ++ csg E cs)) H X := by
  refine At.perm ?_ h
  have : (rowE cellK E x.u.1 ys :: csg E cs).Perm (csg E (cs ++ [(x, ys)])) := by
    simp only [csg, List.map_append, List.map_cons, List.map_nil]; exact (List.perm_append_singleton _ _).symm
  exact (List.perm_middle.symm).trans (this.append_left A)
end
theorem hone9 {a0 a1 a2 a3 a4 a5 a6 a7 : Int} {v : Value} (h : v.oneCell' = true) : (([.int .i64 a0, .int .i64 a1, .int .i64 a2, .int .i64 a3, .int .i64 a4, .int .i64 a5, .int .i64 a6, .int .i64 a7, v] : List Value).all fun v => v.oneCell') = true := by
  simp only [List.all_cons, List.all_nil, h]; rfl
theorem setL_all : ∀ (vs pre cs : List Value), vs.length = cs.length → setL (pre ++ cs) pre.length vs = pre ++ vs
  | [], pre, cs, h => by
    have : cs = [] := List.eq_nil_of_length_eq_zero h.symm
    subst this; rfl
  | v :: vs, pre, [], h => by simp at h
  | v :: vs, pre, c :: cs, h => by
    have e : (pre ++ c :: cs).set pre.length v = (pre ++ [v]) ++ cs := by simp
    have := setL_all vs (pre ++ [v]) cs (by simpa using h)
    rw [setL, e]
    simpa using this
theorem At.stAll {P : Program} {w0 : World} {n : Nat} {S N H : Hp} {l : Fr} {ops : Array Oper} {C : World → Prop} {K : Act → World → Prop} {r : List (Bool × Nat)} {i : Nat} {p x : Operand} {T ty : TypeId} {pos : String} {af : Array Edge} {gd : Option (Nat × Bool)} {b m : Nat} {vs : List Value} {cs : Array Value} {E : TypeId} {N' H' : Hp} (ho : ops[i]? = some ⟨none, .store T p x, ty, pos, af, gd⟩)
    (hg : wantG ops l ⟨none, .store T p x, ty, pos, af, gd⟩ = some true) (hs : (P.info? T).map (·.size) = some m) (hp : Ev n l true p (.pointer (some ⟨b, 0, none⟩))) (hx : Ev n l true x (.agg vs.toArray)) (hone : (vs.all fun v => v.oneCell') = true) (hj : Nat.beq m cs.size = true) (hj2 : vs.length = m)
    (hu : Up N H (.blk b (.cells cs E (0, 0))) (.blk b (.cells vs.toArray E (0, 0))) N' H')
    (h : Cl w0 S N' H' C ∧ At w0 n S l N' H' (wpSch P ops C K r)) : At w0 n S l N H (wpSch P ops C K ((false, i) :: r)) := by
  have hm : m = cs.size := Nat.eq_of_beq_eq_true hj
  have e : setFrom cs 0 vs = vs.toArray := by
    apply Array.toList_inj.1
    rw [setFrom_toList]
    have := setL_all vs [] cs.toList (by simp; omega)
    simpa using this
  rw [← e] at hu
  exact At.stN ho hg hs hp hx hone (by simp; omega) hj2 hu h
end Go.Proofs.YtbolanigdkgbdaaGreat
namespace Go.Proofs.YtbolanigdkgbdaaGreat
open Go Go.RowKit
set_option linter.unusedSectionVars false
variable [Df]
set_option linter.unusedVariables false
inductive UpsL : Hp → Hp → Hp → Hp → Prop
  | nil {l : Hp} : UpsL l [] [] l
  | take {l A B l' : Hp} {a b : Ent} : UpsL l A B l' → UpsL (a :: l) (a :: A) (b :: B) (b :: l')
  | skip {l A B l' : Hp} {x : Ent} : UpsL l A B l' → UpsL (x :: l) A B (x :: l')
theorem UpsL.form {l A B l' : Hp} (h : UpsL l A B l') : ∃ R, l.Perm (A ++ R) ∧ l'.Perm (B ++ R) := by
  induction h with
  | nil => exact ⟨_, .refl _, .refl _⟩
  | take _ ih => obtain ⟨R, h1, h2⟩ := ih; exact ⟨R, h1.cons _, h2.cons _⟩
  | @skip _ _ _ _ x _ ih => obtain ⟨R, h1, h2⟩ := ih; exact ⟨x :: R, (h1.cons x).trans List.perm_middle.symm, (h2.cons x).trans List.perm_middle.symm⟩
inductive Ups : Hp → Hp → Hp → Hp → Hp → Hp → Prop
  | n {N H A B N' : Hp} : UpsL N A B N' → Ups N H A B N' H
  | h {N H A B H' : Hp} : UpsL H A B H' → Ups N H A B N H'
section
variable {w0 w w' : World} {S S' N H N1 H1 N' A B R : Hp}
theorem keys_perm {a b : Hp} (h : a.Perm b) : (keys a).Perm (keys b) := h.filterMap _
theorem St.callMid (h : St w0 w S N H) {T : Hp} (hp : (N ++ H).Perm (A ++ R)) (hT : (N' ++ T).Perm (N' ++ (B ++ R))) (hk : keys B = keys A) (h' : @St noDf w w' S' N' B) :
    (∀ e ∈ N' ++ T, e.holds w') ∧ (∀ e ∈ S, e.holds w') ∧ (keys (N' ++ T)).Nodup ∧ (∀ k ∈ keys S, k ∉ keys (N' ++ T)) ∧ (∀ k, k < w.heap.size → k ∉ keys A → w'.heap[k]? = w.heap[k]?) ∧ (∀ k ∈ keys N', w.heap.size ≤ k) := by
  have hold : ∀ k, k < w.heap.size → k ∉ keys A → w'.heap[k]? = w.heap[k]? := fun k hk1 hk2 => h'.old k hk1 (by rw [hk]; exact hk2) noOwN
  have hlt := keys_lt h.has
  have hge : ∀ k ∈ keys N', w.heap.size ≤ k := fun k hk => by
    obtain ⟨x, hx, hxk⟩ := List.mem_filterMap.1 hk
    exact noOw (h'.fresh x hx k hxk)
  have hnd : (keys (A ++ R)).Nodup := (keys_perm hp).nodup_iff.1 h.nodup
  rw [keys_append] at hnd
  have hmem : ∀ k, k ∈ keys (N ++ H) ↔ k ∈ keys A ∨ k ∈ keys R := fun k => by rw [(keys_perm hp).mem_iff, keys_append, List.mem_append]
  have hR : ∀ e ∈ R, e.holds w' := fun e he => by
    have h1 := h.has e (hp.mem_iff.2 (List.mem_append_right _ he))
    refine Ent.keep h1 h'.size fun k hk2 => hold k (Ent.lt h1 hk2) fun hA => ?_
    exact (List.nodup_append.1 hnd).2.2 k hA k (mem_keys he hk2) rfl
  have hB : ∀ e ∈ N' ++ B, e.holds w' := h'.has
  refine ⟨fun e he => ?_, fun e he => ?_, ?_, fun k hkS hm => ?_, hold, hge⟩
  · rcases List.mem_append.1 (hT.mem_iff.1 he) with he | he
    · exact hB e (List.mem_append_left _ he)
    · rcases List.mem_append.1 he with he | he
      · exact hB e (List.mem_append_right _ he)
      · exact hR e he
  · have h1 := h.hasS e he
    refine Ent.keep h1 h'.size fun k hk2 => hold k (Ent.lt h1 hk2) fun hA => ?_
    exact h.apart k (mem_keys he hk2) ((hmem k).2 (.inl hA))
  · refine (keys_perm hT).nodup_iff.2 ?_
    rw [keys_append, keys_append, hk]
    have hN' : (keys N').Nodup := by
      have := h'.nodup
      rw [keys_append] at this
      exact (List.nodup_append.1 this).1
    refine List.nodup_append.2 ⟨hN', hnd, fun a ha b hb => ?_⟩
    have h1 := hge a ha
    have h2 := hlt b ((hmem b).2 (List.mem_append.1 hb))
    omega
  · rw [(keys_perm hT).mem_iff, keys_append, keys_append, hk] at hm
    rcases List.mem_append.1 hm with hm | hm
    · have := hge k hm; have := keys_lt h.hasS k hkS; omega
    · exact h.apart k hkS ((hmem k).2 (List.mem_append.1 hm))
theorem St.callN (h : St w0 w S N H) (hp : N.Perm (A ++ R)) (hp' : N1.Perm (B ++ R)) (hk : keys B = keys A) (h' : @St noDf w w' S' N' B) : St w0 w' S (N' ++ N1) H := by
  have hp2 : (N ++ H).Perm (A ++ (R ++ H)) := by rw [← List.append_assoc]; exact hp.append_right H
  have hT : (N' ++ (N1 ++ H)).Perm (N' ++ (B ++ (R ++ H))) := by rw [← List.append_assoc B]; exact (hp'.append_right H).append_left N'
  obtain ⟨h1, h2, h3, h4, h5, h6⟩ := h.callMid hp2 hT hk h'
  refine ⟨h'.os.trans h.os, h'.tape.trans h.tape, h'.output.trans h.output, Nat.le_trans h.size h'.size, by rw [List.append_assoc]; exact h1, h2, by rw [List.append_assoc]; exact h3, by rw [List.append_assoc]; exact h4, fun e he k hk1 => ?_, fun b hb hn ho => ?_⟩
  · rcases List.mem_append.1 he with he | he
    · exact .inl (Nat.le_trans h.size (noOw (h'.fresh e he k hk1)))
    · have h7 : k ∈ keys N := by
        rw [(keys_perm hp).mem_iff, keys_append, ← hk, ← keys_append, ← (keys_perm hp').mem_iff]
        exact mem_keys he hk1
      obtain ⟨y, hy, hyk⟩ := List.mem_filterMap.1 h7
      exact h.fresh y hy k hyk
  · rw [← h.old b hb hn ho]
    refine h5 b (Nat.lt_of_lt_of_le hb h.size) fun hA => ?_
    have h7 : b ∈ keys N := by rw [(keys_perm hp).mem_iff, keys_append]; exact List.mem_append_left _ hA
    obtain ⟨y, hy, hyk⟩ := List.mem_filterMap.1 h7
    rcases h.fresh y hy b hyk with h1 | h1
    · omega
    · exact ho h1
theorem St.callO (h : St w0 w S N H) (hp : H.Perm (A ++ R)) (hp' : H1.Perm (B ++ R)) (hk : keys B = keys A) (h' : @St noDf w w' S' N' B) : St w0 w' S (N' ++ N) H1 := by
  have hp2 : (N ++ H).Perm (A ++ (R ++ N)) := by rw [← List.append_assoc]; exact List.perm_append_comm.trans (hp.append_right N)
  have hT : (N' ++ (N ++ H1)).Perm (N' ++ (B ++ (R ++ N))) := by rw [← List.append_assoc B]; exact (List.perm_append_comm.trans (hp'.append_right N)).append_left N'
  obtain ⟨h1, h2, h3, h4, h5, h6⟩ := h.callMid hp2 hT hk h'
  refine ⟨h'.os.trans h.os, h'.tape.trans h.tape, h'.output.trans h.output, Nat.le_trans h.size h'.size, by rw [List.append_assoc]; exact h1, h2, by rw [List.append_assoc]; exact h3, by rw [List.append_assoc]; exact h4, fun e he k hk1 => ?_, fun b hb hn ho => ?_⟩
  · rcases List.mem_append.1 he with he | he
    · exact .inl (Nat.le_trans h.size (noOw (h'.fresh e he k hk1)))
    · exact h.fresh e he k hk1
  · have hkk : ∀ k, k ∈ keys H1 ↔ k ∈ keys H := fun k => by rw [(keys_perm hp').mem_iff, (keys_perm hp).mem_iff, keys_append, keys_append, hk]
    have hbH : b ∉ keys H := fun hm => hn ((hkk b).2 hm)
    rw [← h.old b hb hbH ho]
    refine h5 b (Nat.lt_of_lt_of_le hb h.size) fun hA => hbH ?_
    rw [(keys_perm hp).mem_iff, keys_append]; exact List.mem_append_left _ hA
theorem St.callUps (h : St w0 w S N H) (hu : Ups N H A B N1 H1) (hk : keys B = keys A) (h' : @St noDf w w' S' N' B) : St w0 w' S (N' ++ N1) H1 := by
  cases hu with
  | n hl => obtain ⟨R, h1, h2⟩ := hl.form; exact h.callN h1 h2 hk h'
  | h hl => obtain ⟨R, h1, h2⟩ := hl.form; exact h.callO h1 h2 hk h'
theorem Ups.mem (hu : Ups N H A B N1 H1) : ∀ e ∈ A, e ∈ N ++ H := fun e he => by
  cases hu with
  | n hl => obtain ⟨R, h1, _⟩ := hl.form; exact List.mem_append_left _ (h1.mem_iff.2 (List.mem_append_left _ he))
  | h hl => obtain ⟨R, h1, _⟩ := hl.form; exact List.mem_append_right _ (h1.mem_iff.2 (List.mem_append_left _ he))
theorem Ups.nodup (h : St w0 w S N H) (hu : Ups N H A B N1 H1) : (keys A).Nodup := by
  have hn := h.nodup
  rw [keys_append] at hn
  cases hu with
  | n hl => obtain ⟨R, h1, _⟩ := hl.form; have := (keys_perm h1).nodup_iff.1 (List.nodup_append.1 hn).1; rw [keys_append] at this; exact (List.nodup_append.1 this).1
  | h hl => obtain ⟨R, h1, _⟩ := hl.form; have := (keys_perm h1).nodup_iff.1 (List.nodup_append.1 hn).2.1; rw [keys_append] at this; exact (List.nodup_append.1 this).1
end
def Aprt (w0 : World) (S N H S' A : Hp) : Prop := ∀ w, St w0 w S N H → ∀ k ∈ keys S', k ∉ keys A
theorem Aprt.nil {w0 : World} {S N H A : Hp} : Aprt w0 S N H [] A := fun _ _ _ h => (List.not_mem_nil h).elim
theorem Aprt.nh {w0 : World} {S N H S' A : Hp} (h1 : ∀ e ∈ S', e ∈ N) (h2 : ∀ e ∈ A, e ∈ H) : Aprt w0 S N H S' A := fun w hw k hk hA => by
  obtain ⟨x, hx, hxk⟩ := List.mem_filterMap.1 hk
  obtain ⟨y, hy, hyk⟩ := List.mem_filterMap.1 hA
  have hn := hw.nodup
  rw [keys_append] at hn
  exact (List.nodup_append.1 hn).2.2 k (mem_keys (h1 x hx) hxk) k (mem_keys (h2 y hy) hyk) rfl
theorem Aprt.sub' {w0 : World} {S N H S' A : Hp} (h1 : (A ++ S').Sublist (N ++ H)) : Aprt w0 S N H S' A := fun w hw k hk hA => by
  have hn := (h1.filterMap Ent.key).nodup hw.nodup
  rw [List.filterMap_append] at hn
  exact (List.nodup_append.1 hn).2.2 k hA k hk rfl
@[reducible] def putO (d : Option Nat) (x : Value) (l : Fr) : Fr := match d with
  | none => l
  | some d => (d, true, x) :: l
def IsM (x : Value) (B : Hp) : Value → Hp → Hp → Prop := fun v N H => v = x ∧ N = [] ∧ H = B
section
variable {P : Program} {w0 : World} {n : Nat} {S N H : Hp} {l : Fr} {ops : Array Oper} {C : World → Prop} {K : Act → World → Prop} {r : List (Bool × Nat)} {i : Nat}
theorem At.callM {d : Option Nat} {fx : Operand} {xs : List Operand} {ats : Array TypeId} {ty : TypeId} {pos : String} {af : Array Edge} {gd : Option (Nat × Bool)} {f : FuncId} {fst cap : List Value} {vs args : List Value} {S' A B N1 H1 : Hp} {x : Value}
    (ho : ops[i]? = some ⟨d, .call { callee := .value fx, args := xs.toArray, argTypes := ats }, ty, pos, af, gd⟩) (hdn : (match d with | none => true | some d => Nat.blt d n) = true) (hg : wantG ops l ⟨d, .call { callee := .value fx, args := xs.toArray, argTypes := ats }, ty, pos, af, gd⟩ = some true)
    (hf : Ev n l true fx (.func (.func f) fst.toArray cap.toArray)) (hxs : Evs n l true xs vs) (hargs : fst ++ vs ++ cap = args) (hu : Ups N H A B N1 H1) (hS : Rds (fun w => St w0 w S N H) S') (hc : Fn P f args S' A (IsM x B)) (hk : keys B = keys A) (hSe : Aprt w0 S N H S' A)
    (h : Cl w0 S N1 H1 C ∧ At w0 n S (putO d x l) N1 H1 (wpSch P ops C K r)) : At w0 n S l N H (wpSch P ops C K ((false, i) :: r)) :=
  At.eW (d := d) ho hg fun a w ha hw => by
    unfold Oper.wp
    rw [run_call rfl ha hf hxs hc.1, Oper.upon_enter]
    have e1 : fst.toArray ++ vs.toArray ++ cap.toArray = args.toArray := by rw [← hargs]; simp
    rw [e1]
    have hw' : @St noDf w w S' [] A := St.refl0 (fun e he => hw.has e (hu.mem e he)) (fun x hx => hS.all x hx w hw) (hu.nodup hw) (hSe w hw)
    refine (hc.2 w hw').mono ?_
    rintro e0 w' ⟨v, N', H', hR, rfl, hst⟩
    obtain ⟨rfl, rfl, rfl⟩ := hR
    have := hw.callUps hu hk hst
    simp only [List.nil_append] at this
    refine ⟨h.1 w' this, h.2 _ w' ?_ this⟩
    cases d with
    | none => exact ha
    | some d => exact ha.put (by simpa using hdn) rfl
end
section
variable {P : Program} {w0 : World} {n : Nat} {S N H : Hp} {l : Fr} {ops : Array Oper}
theorem At.drawM {id : Nat} {Q : Exit → Act → World → Prop} (L1 L2 : Hp) (s0 s1 s2 : List (Bool × Nat)) (h01 : ∀ e ∈ L1, e ∈ S ++ (N ++ H)) (h12 : ∀ e ∈ L2, e ∈ L1) (hm : P.follows .mixedOrders = true) (hk : (Region.noSelect ops && (s2.length + s1.length + s0.length == ops.size) && schOkL .any ops s0 s1 s2 (Array.replicate ops.size false)) = true)
    (h : At w0 n S l N H (wpSch P ops (Kept L2) (fun a w => Kept L1 w ∧ wpSch P ops (Kept L1) (fun a w => Kept L2 w ∧ wpSch P ops (Kept L2) (Q .normal) s2 a w) s1 a w) s0)) : At w0 n S l N H ((Code.region id ops true).wp P Q) := fun a w ha hw => by
  simp only [Bool.and_eq_true] at hk
  exact wp_region_schL s0 s1 s2 (fun w hw e he => hw e (h12 e he)) hm hk.1.1 (by simpa using hk.1.2) hk.2 (h a w.drew ha hw.drew)
end
end Go.Proofs.YtbolanigdkgbdaaGreat
