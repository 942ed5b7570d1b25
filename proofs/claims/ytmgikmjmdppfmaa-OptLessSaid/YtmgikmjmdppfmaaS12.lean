/-
  Arrays of truth values, as data. It imports nothing of the dump.
-/
import Derived.Test.YtmgikmjmdppfmaaS11
namespace Go.Proofs.Ytmgikmjmdppfmaa
open Go.RowKit
set_option linter.unusedSimpArgs false
set_option linter.unusedVariables false

/-- How many elements an array has, and of which type. -/
def arI (P : Program) (T : TypeId) : Option (Nat × TypeId) := match P.underlying T with
  | some (.array n e) => some (n, e)
  | _ => none
theorem arI_parts {P : Program} {T e : TypeId} {n : Nat} (h : arI P T = some (n, e)) : P.underlying T = some (.array n e) := by
  unfold arI at h
  split at h
  · rename_i hu; cases h; exact hu
  · cases h
theorem splice_bool {l : List Bool} {q : Nat} {b : Bool} (h : q < l.length) : splice (l.map Value.bool) q [.bool b] = (l.set q b).map Value.bool := by
  unfold splice
  rw [List.set_eq_take_append_cons_drop, if_pos h]
  simp
theorem nth_bool {l : List Bool} {q : Nat} (h : q < l.length) : (l.map Value.bool)[q]? = some (.bool (nth l q)) := by
  rw [List.getElem?_map, List.getElem?_eq_getElem h, nth_lt _ _ h]; rfl
section
variable {P : Program} {o : Oper} {N : Nat} {K : Nat → Prop} {W w : World} {a : Act} {F : List (Nat × Value)} {L : List Asn}
theorem r_ixAr {T e : TypeId} {gg : Bool} {m by_ : Nat} {z : List Value} {x y : Operand} {n g q : Nat} (hT : arI P T = some (n, e)) (he : tyI P e = some (gg, m, by_, z)) (hm : m = 1) (ho : o.op = .indexAddr T x y) (hx : ev F x = some (.pointer (some ⟨g, 0, none⟩))) (hy : ev F y = some (.int .i64 (q : Int))) (hq : q < n) : Rn P o N K W F L (.pointer (some ⟨g, q, none⟩)) := fun a w h => by
  obtain ⟨i, d, zv, hi, hd, _, rfl, _⟩ := tyI_parts he
  have hu := arI_parts hT
  have hel : P.elem T = e := by simp [Program.elem, hu]
  have hal : P.arrayLen T = n := by simp [Program.arrayLen, hu]
  have hu' : P.underlying T = some (.array (P.arrayLen T) (P.elem T)) := by rw [hel, hal]; exact hu
  have e1 := run_indexAt_array (P := P) (w := w) T ⟨g, 0, none⟩ .i64 (q : Int) hu'
  rw [if_pos ⟨by omega, by rw [hal]; omega⟩, hel, run_sizeOf hi, Result.andThen_ok, hm] at e1
  unfold execOp
  simp only [ho, h.fr.ev hx, h.fr.ev hy, Sem.run_bind, e1, Result.andThen_ok, Sem.run_pure]
  simp [Addr.add_lit]
theorem run_part1 {e : TypeId} {n by_ : Nat} {z : List Value} {cs : Array Value} {q : Nat} {v : Value} (he : tyI P e = some (false, n, by_, z)) (hv : cs[q]? = some v) (w : World) : (part e cs q).run P w = .ok v w := by
  obtain ⟨i, d, zv, hi, hd, hg, _⟩ := tyI_parts he
  unfold part
  rw [Sem.run_bind, run_isAgg hd, hg, Result.andThen_ok]
  simp only [Bool.false_eq_true, if_false, hv, Sem.run_pure]
theorem r_ixV {T e : TypeId} {by_ : Nat} {z : List Value} {x y : Operand} {n q : Nat} {cs : List Value} {v : Value} (hT : arI P T = some (n, e)) (he : tyI P e = some (false, 1, by_, z)) (ho : o.op = .index T x y) (hx : ev F x = some (.agg cs.toArray)) (hy : ev F y = some (.int .i64 (q : Int))) (hq : q < n) (hv : cs[q]? = some v) : Rn P o N K W F L v := fun a w h => by
  obtain ⟨i, d, zv, hi, hd, _, hs, _⟩ := tyI_parts he
  have hu := arI_parts hT
  have e1 : (Instr.index T (.agg cs.toArray) (.int .i64 (q : Int))).run P w = .ok v w := by
    unfold Instr.index
    have h2 : (0 : Int) ≤ (q : Int) ∧ (q : Int) < (n : Int) := by omega
    simp only [asIntOf, Sem.run_bind, Sem.run_pure, Result.andThen_ok, run_underlying hu, if_pos h2, run_sizeOf hi, hs, Int.toNat_natCast, Nat.mul_one]
    exact run_part1 he (by simpa using hv) w
  unfold execOp
  simp only [ho, h.fr.ev hx, h.fr.ev hy, Sem.run_bind, e1, Result.andThen_ok, Sem.run_pure]
theorem forIn_eqArr {e : TypeId} {by_ d : Nat} {z : List Value} {n : Nat} {l m : List Bool} (he : tyI P e = some (false, 1, by_, z)) (hb : P.underlying e = some .bool) (hl : l.length = n) (hm : m.length = n) (w : World) : ∀ c k, k + c = n →
    Sem.run P (forIn (List.range' k c) ((none, ()) : Option Bool × Unit) fun i _ => do
      let x ← part e (l.map Value.bool).toArray (i * 1)
      let y ← part e (m.map Value.bool).toArray (i * 1)
      let b ← Op.equalIn (d + 1) e x y
      if (!b) = true then pure (ForInStep.done (some false, ())) else pure (ForInStep.yield (none, ()))) w = .ok (if l.drop k = m.drop k then (none, ()) else (some false, ())) w
  | 0, k, h => by
    rw [show List.range' k 0 = [] from rfl, List.forIn_nil, Sem.run_pure, if_pos (by rw [List.drop_of_length_le (by omega), List.drop_of_length_le (by omega)])]
  | c + 1, k, h => by
    have e1 : l.drop k = nth l k :: l.drop (k + 1) := by rw [List.drop_eq_getElem_cons (by omega), nth_lt _ _ (by omega)]
    have e2 : m.drop k = nth m k :: m.drop (k + 1) := by rw [List.drop_eq_getElem_cons (by omega), nth_lt _ _ (by omega)]
    have p1 := run_part1 (P := P) (q := k * 1) he (v := .bool (nth l k)) (by rw [Nat.mul_one, List.getElem?_toArray]; exact nth_bool (l := l) (q := k) (by omega)) w
    have p2 := run_part1 (P := P) (q := k * 1) he (v := .bool (nth m k)) (by rw [Nat.mul_one, List.getElem?_toArray]; exact nth_bool (l := m) (q := k) (by omega)) w
    rw [List.range'_succ, List.forIn_cons]
    simp only [Sem.run_bind, p1, p2, Result.andThen_ok, run_equalIn_bool' w d e _ _ hb]
    by_cases hk : nth l k = nth m k
    · have : (!(nth l k == nth m k)) = false := by rw [hk]; simp
      simp only [this, Bool.false_eq_true, if_false, Sem.run_pure, Result.andThen_ok]
      rw [forIn_eqArr he hb hl hm w c (k + 1) (by omega), e1, e2]
      congr 1
      by_cases h2 : l.drop (k + 1) = m.drop (k + 1)
      · rw [if_pos h2, if_pos (by rw [hk, h2])]
      · rw [if_neg h2, if_neg (fun h3 => h2 (List.cons.inj h3).2)]
    · have : (!(nth l k == nth m k)) = true := by simpa using hk
      simp only [this, if_true, Sem.run_pure, Result.andThen_ok]
      rw [e1, e2, if_neg (fun h3 => hk (List.cons.inj h3).1)]
/-- Two arrays of truth values are compared. -/
theorem run_eqArr {T e : TypeId} {by_ d : Nat} {z : List Value} {n : Nat} {l m : List Bool} (hT : arI P T = some (n, e)) (he : tyI P e = some (false, 1, by_, z)) (hb : P.underlying e = some .bool) (hl : l.length = n) (hm : m.length = n) (w : World) :
    (Op.equalIn (d + 1 + 1) T (.agg (l.map Value.bool).toArray) (.agg (m.map Value.bool).toArray)).run P w = .ok (decide (l = m)) w := by
  obtain ⟨i, dd, zv, hi, hd, _, hs, _⟩ := tyI_parts he
  have hu := arI_parts hT
  rw [Op.equalIn]
  simp only [Sem.run_bind, run_underlying hu, Result.andThen_ok, run_sizeOf hi, hs]
  rw [Std.Legacy.Range.forIn_eq_forIn_range']
  have hk := forIn_eqArr (P := P) (d := d) he hb hl hm w n 0 (by omega)
  rw [show List.range' [:n].start [:n].size [:n].step = List.range' 0 n by simp [Std.Legacy.Range.size], hk]
  simp only [List.drop_zero, Result.andThen_ok]
  by_cases h : l = m
  · rw [if_pos h, decide_eq_true h]; rfl
  · rw [if_neg h, decide_eq_false h]; rfl
theorem r_neqAr {T U e : TypeId} {by_ : Nat} {z : List Value} {n : Nat} {x y : Operand} {l m : List Bool} (hT : arI P T = some (n, e)) (he : tyI P e = some (false, 1, by_, z)) (hb : P.underlying e = some .bool) (hgt : P.eqGuardType P.depth T = false) (ho : o.op = .binOp .neq T x y U)
    (hx : ev F x = some (.agg (l.map Value.bool).toArray)) (hy : ev F y = some (.agg (m.map Value.bool).toArray)) (hl : l.length = n) (hm : m.length = n) : Rn P o N K W F L (.bool (decide (l ≠ m))) := fun a w h => by
  have e1 := run_eqGuard_agg (P := P) (w := w) .neq T x y (l.map Value.bool).toArray (m.map Value.bool).toArray hgt
  have e2 := run_neq_struct (P := P) (w := w) T (l.map Value.bool).toArray (m.map Value.bool).toArray
  rw [run_eqArr (d := 9998) hT he hb hl hm w, Result.andThen_ok] at e2
  unfold execOp
  simp only [ho, h.fr.ev hx, h.fr.ev hy, Sem.run_bind, e1, e2, Result.andThen_ok, Sem.run_pure]
  congr 2
  by_cases hh : l = m
  · simp [hh]
  · simp [hh]
/-- An array of 200 truth values. -/
structure BArr where
  l : List Bool
instance : Inhabited BArr := ⟨⟨List.replicate 200 false⟩⟩
instance : Enc BArr where
  sz := 200
  cell x j := .bool (nth x.l j)
  whole x := .agg ((List.range 200).map fun j => .bool (nth x.l j)).toArray
  agg := true
  inner x _ := x.l.length = 200
  on _ _ := False
  one h := by cases h
  many _ _ := rfl
  keep _ _ _ h _ := h
  lt _ _ _ _ hb := hb.elim
theorem barr_whole {l : List Bool} (h : l.length = 200) : (List.range 200).map (fun j => Value.bool (nth l j)) = l.map Value.bool := by
  refine List.ext_getElem? fun i => ?_
  by_cases hi : i < 200
  · rw [nth_bool (by omega), List.getElem?_map, List.getElem?_range hi]; rfl
  · rw [List.getElem?_eq_none (by simp; omega), List.getElem?_eq_none (by simp; omega)]
theorem x_allocAr {d : Nat} {T : TypeId} {g : Bool} {n by_ k : Nat} {z : List Value} (h : St N K W a w F L) (hT : tyI P T = some (g, n, by_, z)) (hz : z = (List.replicate k false).map Value.bool) (ho : o.op = .alloc T) (hd : o.dst = some d) (hdN : Nat.blt d N = true) :
    Ex P o a w (fun a' w' => ∃ b : Nat, St N K W a' w' ((d, .pointer (some ⟨b, 0, none⟩)) :: F) (.blk b T ((List.replicate k false).map Value.bool) :: L)) := by
  subst hz; exact x_alloc h hT ho hd hdN
theorem x_stAr {T : TypeId} {gg : Bool} {by_ : Nat} {z : List Value} {x y : Operand} {g q i : Nat} {E : TypeId} {l : List Bool} {b : Bool} (h : St N K W a w F L) (hT : tyI P T = some (gg, 1, by_, z)) (ho : o.op = .store T x y) (hd : o.dst = none)
    (hx : ev F x = some (.pointer (some ⟨g, q, none⟩))) (hy : ev F y = some (.bool b)) (hi : L[i]? = some (.blk g E (l.map Value.bool))) (hq : q < l.length) :
    Ex P o a w (fun a' w' => St N K W a' w' F (L.set i (.blk g E ((l.set q b).map Value.bool)))) :=
  x_stb h hT ho hd hx hy hi (vs := [.bool b]) rfl rfl rfl (by rw [List.length_map]; omega) (splice_bool hq)
theorem r_ldAr {T : TypeId} {n by_ : Nat} {z : List Value} {x : Operand} {g q i : Nat} {E : TypeId} {l : List Bool} (hT : tyI P T = some (false, n, by_, z)) (ho : o.op = .load T x) (hx : ev F x = some (.pointer (some ⟨g, q, none⟩))) (hi : L[i]? = some (.blk g E (l.map Value.bool))) (hq : q < l.length) : Rn P o N K W F L (.bool (nth l q)) :=
  r_ldb hT ho hx hi (nth_bool hq)
theorem r_ldwAr {T : TypeId} {n by_ : Nat} {z : List Value} {x : Operand} {g i : Nat} {E : TypeId} {l : List Bool} (hT : tyI P T = some (true, n, by_, z)) (ho : o.op = .load T x) (hx : ev F x = some (.pointer (some ⟨g, 0, none⟩))) (hi : L[i]? = some (.blk g E (l.map Value.bool))) (hl : l.length = n) : Rn P o N K W F L (.agg (l.map Value.bool).toArray) :=
  r_ldbw hT ho hx hi (by rw [List.drop_zero, List.take_of_length_le (by rw [List.length_map]; omega)]) (by rw [List.length_map]; exact hl)
/-- An array is read out of a row. -/
theorem r_ldewAr {T : TypeId} {n by_ : Nat} {z : List Value} {x : Operand} {i : Nat} {s : Ls BArr} (hT : tyI P T = some (true, 200, by_, z)) (ho : o.op = .load T x) (hx : ev F x = some (.pointer (some (padr s.v 200 i 0)))) (hat : ∀ w, Sh K W w L → s.At w) (hi : i < s.l.length) : Rn P o N K W F L (.agg ((nth s.l i).l.map Value.bool).toArray) := fun a w h => by
  have h1 : (nth s.l i).l.length = 200 := (hat w h.sh).inner i hi
  have h2 := r_ldew (N := N) (vs := (nth s.l i).l.map Value.bool) hT ho hx rfl hat hi (by decide) (by rw [← barr_whole h1]; rfl)
  exact h2 a w h
end
end Go.Proofs.Ytmgikmjmdppfmaa
