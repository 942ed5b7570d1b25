/-
  Maps whose keys are arrays of numbers and which hold rows, as resources. It imports nothing of the dump.
-/
import Derived.Test.YtanhbpofhebbaaaS15
namespace Go.Proofs.Ytanhbpofhebbaaa
open Go.RowKit
set_option linter.unusedSimpArgs false
set_option linter.unusedVariables false

def kvV (k : List Nat) : Value := .agg (k.map nv).toArray
def entL : List (List Nat × Value) → Nat → List MapEntry
  | [], _ => []
  | x :: r, i => ⟨kvV x.1, x.2, i⟩ :: entL r (i + 1)
theorem entL_append (x : List Nat × Value) : ∀ (l : List (List Nat × Value)) (i : Nat), entL (l ++ [x]) i = entL l i ++ [⟨kvV x.1, x.2, i + l.length⟩]
  | [], _ => rfl
  | y :: r, i => by
    rw [List.cons_append, entL, entL_append x r (i + 1), entL, List.cons_append, List.length_cons]
    congr 3
    simp; omega
theorem entL_get : ∀ (l : List (List Nat × Value)) (i j : Nat) (x : List Nat × Value), l[j]? = some x → (entL l i)[j]? = some ⟨kvV x.1, x.2, i + j⟩
  | [], _, _, _, h => by simp at h
  | y :: r, i, 0, x, h => by
    obtain rfl : y = x := by simpa using h
    rfl
  | y :: r, i, j + 1, x, h => by
    have := entL_get r (i + 1) j x (by simpa using h)
    rw [entL, List.getElem?_cons_succ, this]
    congr 2
    omega
/-- Where a key stands. -/
def findK (k : List Nat) : List (List Nat × Value) → Option Nat
  | [] => none
  | x :: r => if k = x.1 then some 0 else (findK k r).map (· + 1)
theorem findK_some {k : List Nat} : ∀ {l : List (List Nat × Value)} {i : Nat}, findK k l = some i → ∃ x, l[i]? = some x ∧ x.1 = k
  | [], _, h => by cases h
  | x :: r, i, h => by
    rw [findK] at h
    split at h
    · rename_i e
      obtain rfl : 0 = i := by simpa using h
      exact ⟨x, rfl, e.symm⟩
    · cases hr : findK k r with
      | none => rw [hr] at h; cases h
      | some q =>
        rw [hr] at h
        obtain rfl : q + 1 = i := by simpa using h
        obtain ⟨y, hy, e⟩ := findK_some hr
        exact ⟨y, hy, e⟩
section
variable {P : Program}
theorem forIn_eqAn {e : TypeId} {by_ d : Nat} {z : List Value} {n : Nat} {ik : IntKind} {l m : List Nat} (he : tyI P e = some (false, 1, by_, z)) (hb : P.underlying e = some (.int ik)) (hl : l.length = n) (hm : m.length = n) (w : World) : ∀ c k, k + c = n →
    Sem.run P (forIn (List.range' k c) ((none, ()) : Option Bool × Unit) fun i _ => do
      let x ← part e (l.map nv).toArray (i * 1)
      let y ← part e (m.map nv).toArray (i * 1)
      let b ← Op.equalIn (d + 1) e x y
      if (!b) = true then pure (ForInStep.done (some false, ())) else pure (ForInStep.yield (none, ()))) w = .ok (if l.drop k = m.drop k then (none, ()) else (some false, ())) w
  | 0, k, h => by
    rw [show List.range' k 0 = [] from rfl, List.forIn_nil, Sem.run_pure, if_pos (by rw [List.drop_of_length_le (by omega), List.drop_of_length_le (by omega)])]
  | c + 1, k, h => by
    have e1 : l.drop k = nth l k :: l.drop (k + 1) := by rw [List.drop_eq_getElem_cons (by omega), nth_lt _ _ (by omega)]
    have e2 : m.drop k = nth m k :: m.drop (k + 1) := by rw [List.drop_eq_getElem_cons (by omega), nth_lt _ _ (by omega)]
    have p1 := run_part1 (P := P) (q := k * 1) he (v := nv (nth l k)) (by rw [Nat.mul_one, List.getElem?_toArray]; exact nth_nv (l := l) (q := k) (by omega)) w
    have p2 := run_part1 (P := P) (q := k * 1) he (v := nv (nth m k)) (by rw [Nat.mul_one, List.getElem?_toArray]; exact nth_nv (l := m) (q := k) (by omega)) w
    have p3 : (Op.equalIn (d + 1) e (nv (nth l k)) (nv (nth m k))).run P w = .ok (decide (nth l k = nth m k)) w := by
      unfold nv
      rw [run_equalIn_int w d e .i64 ik _ _ hb]
      congr 1
      rw [Bool.eq_iff_iff]
      simp only [beq_iff_eq, decide_eq_true_eq]
      omega
    rw [List.range'_succ, List.forIn_cons]
    simp only [Sem.run_bind, p1, p2, p3, Result.andThen_ok]
    by_cases hk : nth l k = nth m k
    · simp only [decide_eq_true hk, Bool.not_true, Bool.false_eq_true, if_false, Sem.run_pure, Result.andThen_ok]
      rw [forIn_eqAn he hb hl hm w c (k + 1) (by omega), e1, e2]
      congr 1
      by_cases h2 : l.drop (k + 1) = m.drop (k + 1)
      · rw [if_pos h2, if_pos (by rw [hk, h2])]
      · rw [if_neg h2, if_neg (fun h3 => h2 (List.cons.inj h3).2)]
    · simp only [decide_eq_false hk, Bool.not_false, if_true, Sem.run_pure, Result.andThen_ok]
      rw [e1, e2, if_neg (fun h3 => hk (List.cons.inj h3).1)]
theorem run_eqAn {T e : TypeId} {by_ : Nat} {z : List Value} {n : Nat} {ik : IntKind} {l m : List Nat} (hT : arI P T = some (n, e)) (he : tyI P e = some (false, 1, by_, z)) (hb : P.underlying e = some (.int ik)) (hl : l.length = n) (hm : m.length = n) (w : World) :
    (Op.equal T (kvV l) (kvV m)).run P w = .ok (decide (l = m)) w := by
  obtain ⟨i, dd, zv, hi, hd, _, hs, _⟩ := tyI_parts he
  have hu := arI_parts hT
  have key : (Op.equalIn (9998 + 1 + 1) T (kvV l) (kvV m)).run P w = .ok (decide (l = m)) w := by
    unfold kvV
    rw [Op.equalIn]
    simp only [Sem.run_bind, run_underlying hu, Result.andThen_ok, run_sizeOf hi, hs]
    rw [Std.Legacy.Range.forIn_eq_forIn_range']
    have hk := forIn_eqAn (P := P) (d := 9998) he hb hl hm w n 0 (by omega)
    rw [show List.range' [:n].start [:n].size [:n].step = List.range' 0 n by simp [Std.Legacy.Range.size], hk]
    simp only [List.drop_zero, Result.andThen_ok]
    by_cases h : l = m
    · rw [if_pos h, decide_eq_true h]; rfl
    · rw [if_neg h, decide_eq_false h]; rfl
  exact key
/-- What a map of this kind is. -/
structure MapT (P : Program) (T kT eT eK : TypeId) (n : Nat) : Prop where
  map : P.underlying T = some (.map kT eT)
  ar : arI P kT = some (n, eK)
  el : ∃ by_ z, tyI P eK = some (false, 1, by_, z)
  int : P.underlying eK = some (.int .i64)
  zero : ∀ w, (zeroValue eT).run P w = .ok (.slice none 0 0) w
theorem run_checkKeyAn {T kT eT eK : TypeId} {n : Nat} (h : MapT P T kT eT eK n) {k : List Nat} (hk : k.length = n) (b : Bool) (w : World) : (Instr.checkKey b 10000 kT (kvV k)).run P w = .ok () w := by
  obtain ⟨by_, z, he⟩ := h.el
  have hb := h.int
  obtain ⟨i, dd, zv, hi, hd, _, hs, _⟩ := tyI_parts he
  have hu := arI_parts h.ar
  have key : ∀ c j, j + c = n → Sem.run P (forIn (List.range' j c) () fun i _ => do
      let s ← sizeOf eK
      let x ← part eK (k.map nv).toArray (i * s)
      Instr.checkKey b 9999 eK x
      pure (ForInStep.yield ())) w = .ok () w := by
    intro c
    induction c with
    | zero => intro j _; rw [show List.range' j 0 = [] from rfl, List.forIn_nil, Sem.run_pure]
    | succ c ih =>
      intro j hj
      have p1 := run_part1 (P := P) (q := j * 1) he (v := nv (nth k j)) (by rw [Nat.mul_one, List.getElem?_toArray]; exact nth_nv (l := k) (q := j) (by omega)) w
      have p2 : (Instr.checkKey b 9999 eK (nv (nth k j))).run P w = .ok () w := by
        exact run_checkKey_int w b 9998 eK _ hb
      rw [List.range'_succ, List.forIn_cons]
      simp only [Sem.run_bind, run_sizeOf hi, hs, Result.andThen_ok, p1, p2, Sem.run_pure]
      exact ih (j + 1) (by omega)
  unfold kvV
  rw [Instr.checkKey]
  simp only [Sem.run_bind, run_underlying hu, Result.andThen_ok]
  rw [Std.Legacy.Range.forIn_eq_forIn_range']
  rw [show List.range' [:n].start [:n].size [:n].step = List.range' 0 n by simp [Std.Legacy.Range.size]]
  exact (congrArg (fun r => Result.andThen r fun (_ : Unit) w' => Sem.run P (pure ()) w') (key n 0 (by omega))).trans (by simp only [Result.andThen_ok, Sem.run_pure])
theorem run_findAsking {T kT eT eK : TypeId} {n : Nat} (h : MapT P T kT eT eK n) {k : List Nat} (hk : k.length = n) (w : World) : ∀ (l : List (List Nat × Value)) (i j : Nat), (∀ x ∈ l, x.1.length = n) →
    (Instr.findAsking kT (kvV k) (entL l j) i).run P w = .ok ((findK k l).bind fun q => (l[q]?).map fun x => (i + q, x.2)) w
  | [], i, j, _ => by
    rw [entL, Instr.findAsking, Sem.run_pure]; rfl
  | x :: r, i, j, hl => by
    obtain ⟨by_, z, he⟩ := h.el
    have hb := h.int
    have e1 := run_eqAn (P := P) h.ar he hb hk (hl x (by simp)) w
    have ih := run_findAsking h hk w r (i + 1) (j + 1) fun y hy => hl y (by simp [hy])
    rw [entL, Instr.findAsking]
    simp only [Sem.run_bind, e1, Result.andThen_ok]
    rw [findK]
    by_cases hx : k = x.1
    · simp [hx]
    · simp only [decide_eq_false hx, Bool.false_eq_true, if_false, if_neg hx, ih]
      congr 1
      cases findK k r with
      | none => rfl
      | some q =>
        simp only [Option.bind_some, Option.map_some, List.getElem?_cons_succ]
        cases r[q]? with
        | none => rfl
        | some y => simp; omega
theorem run_findKey {T kT eT eK : TypeId} {n : Nat} (h : MapT P T kT eT eK n) {k : List Nat} (hk : k.length = n) (w : World) (l : List (List Nat × Value)) (j : Nat) (hl : ∀ x ∈ l, x.1.length = n) :
    (Instr.findKey kT (kvV k) (entL l j)).run P w = .ok ((findK k l).bind fun q => (l[q]?).map fun x => (q, x.2)) w := by
  have hu := arI_parts h.ar
  unfold Instr.findKey
  simp only [Sem.run_bind, run_underlying hu, Result.andThen_ok]
  cases l with
  | nil => simp [entL, Instr.findNow, findK]
  | cons x r =>
    have e1 := run_findAsking h hk w (x :: r) 0 j hl
    have : Instr.findNow (.array n eK) (kvV k) (entL (x :: r) j) 0 = none := by
      simp [entL, Instr.findNow, Instr.sameNow]
    rw [this]
    simpa using e1
end
theorem sameBits_an (k : List Nat) : Instr.sameBits 10000 (kvV k) (kvV k) = true := by
  unfold kvV
  rw [Instr.sameBits]
  simp only [beq_self_eq_true, Bool.true_and, List.all_eq_true]
  intro x hx
  have : ∀ (m : List Nat) (x : Value × Value), x ∈ (m.map nv).zip (m.map nv) → ∃ q, x = (nv q, nv q) := by
    intro m
    induction m with
    | nil => intro x hx; cases hx
    | cons a m ih =>
      intro x hx
      rw [List.map_cons, List.zip_cons_cons] at hx
      rcases List.mem_cons.1 hx with rfl | hx
      · exact ⟨a, rfl⟩
      · exact ih x hx
  obtain ⟨q, rfl⟩ := this k x hx
  simp [Instr.sameBits, nv]
/-- A map with rows. -/
def Asn.mapB (g : Nat) (l : List (List Nat × Value)) : Asn where
  fp b := b = g
  rd _ := False
  ok w := w.heap[g]? = some (.map (entL l 0).toArray l.length)
  keep w w' h hb := (hb g (.inl rfl)).trans h
  lt w h b hb := by
    rcases hb with rfl | hb
    · exact (Array.getElem?_eq_some_iff.1 h).1
    · exact hb.elim
section
variable {α : Type}
def kvs (M : List (List Nat × Ls α)) : List (List Nat × Value) := M.map fun x => (x.1, x.2.v)
def ensK (k : List Nat) (M : List (List Nat × Ls α)) : List (List Nat × Ls α) := if findK k (kvs M) = none then M ++ [(k, ⟨.slice none 0 0, []⟩)] else M
def idxK (k : List Nat) (M : List (List Nat × Ls α)) : Nat := (findK k (kvs M)).getD M.length
def rowK (k : List Nat) (M : List (List Nat × Ls α)) : Ls α := (nth (ensK k M) (idxK k M)).2
end
instance {α : Type} : Inhabited (List Nat × Ls α) := ⟨([], ⟨.slice none 0 0, []⟩)⟩
section
variable {α : Type}
theorem kvs_len (M : List (List Nat × Ls α)) : (kvs M).length = M.length := List.length_map _
theorem kvs_get {M : List (List Nat × Ls α)} {i : Nat} (h : i < M.length) : (kvs M)[i]? = some ((nth M i).1, (nth M i).2.v) := by
  unfold kvs
  rw [List.getElem?_map, List.getElem?_eq_getElem h, nth_lt _ _ h]; rfl
end
end Go.Proofs.Ytanhbpofhebbaaa
