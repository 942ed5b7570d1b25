/-
  Maps from numbers to values of any kind, as resources: made, looked up, entered, cloned, gone through. It imports nothing of the dump.
-/
import Derived.Test.YtmgikmjmdppfmaaS22
namespace Go.Proofs.Ytmgikmjmdppfmaa
open Go.RowKit
set_option linter.unusedSimpArgs false
set_option linter.unusedVariables false

structure KA (α : Type) where
  k : Int
  v : α
  b : Nat
section
variable {α : Type}
def KA.e (enc : α → Value) (x : KA α) : MapEntry := ⟨.int .i64 x.k, enc x.v, x.b⟩
/-- Block g is a map that holds these, each key once. -/
structure MapCA (enc : α → Value) (w : World) (g : Nat) (c : List (KA α)) (t : Nat) : Prop where
  blk : w.heap[g]? = some (.map (c.map (KA.e enc)).toArray t)
  born : (c.map (·.b)).Nodup
  below : ∀ x ∈ c, x.b < t
  keys : (c.map (·.k)).Nodup
theorem MapCA.of_block {enc : α → Value} {w w' : World} {g : Nat} {c : List (KA α)} {t : Nat} (h : MapCA enc w g c t) (hb : w'.heap[g]? = w.heap[g]?) : MapCA enc w' g c t := ⟨hb.trans h.blk, h.born, h.below, h.keys⟩
theorem MapCA.lt {enc : α → Value} {w : World} {g : Nat} {c : List (KA α)} {t : Nat} (h : MapCA enc w g c t) : g < w.heap.size := (Array.getElem?_eq_some_iff.1 h.blk).1
/-- A map, or none. -/
def Asn.mapA (enc : α → Value) (p : Option Nat) (c : List (KA α)) (t : Nat) : Asn where
  fp b := p = some b
  rd _ := False
  ok w := match p with
    | none => c = []
    | some g => MapCA enc w g c t
  keep w w' h hb := by
    cases p with
    | none => exact h
    | some g => exact h.of_block (hb g (.inl rfl))
  lt w h b hb := by
    rcases hb with rfl | hb
    · exact h.lt
    · exact hb.elim
def getK (k : Int) : List (KA α) → Option α
  | [] => none
  | x :: r => if k = x.k then some x.v else getK k r
def va (enc : α → Value) (c : List (KA α)) : List (Int × Value) := c.map fun x => (x.k, enc x.v)
theorem atKey_va (enc : α → Value) (k : Int) : ∀ (c : List (KA α)) (i : Nat), (atKey k (va enc c) i).map (·.2) = (getK k c).map enc
  | [], _ => rfl
  | x :: r, i => by
    show (if k = x.k then some (i, enc x.v) else atKey k (va enc r) (i + 1)).map (·.2) = _
    rw [getK]
    by_cases h : k = x.k
    · rw [if_pos h, if_pos h]; rfl
    · rw [if_neg h, if_neg h]; exact atKey_va enc k r (i + 1)
theorem getK_none {k : Int} : ∀ {c : List (KA α)}, getK k c = none ↔ k ∉ c.map (·.k)
  | [] => by simp [getK]
  | x :: r => by
    rw [getK]
    by_cases h : k = x.k
    · simp [h]
    · rw [if_neg h, getK_none]; simp [h]
theorem getK_mem {x : KA α} : ∀ {c : List (KA α)}, (c.map (·.k)).Nodup → x ∈ c → getK x.k c = some x.v
  | [], _, h => by cases h
  | y :: r, hn, h => by
    rw [List.map_cons, List.nodup_cons] at hn
    rw [getK]
    rcases List.mem_cons.1 h with rfl | h
    · rw [if_pos rfl]
    · rw [if_neg, getK_mem hn.2 h]
      exact fun e => hn.1 (by rw [← e]; exact List.mem_map.2 ⟨x, h, rfl⟩)
theorem getK_some {k : Int} {v : α} : ∀ {c : List (KA α)}, getK k c = some v → ∃ x ∈ c, x.k = k ∧ x.v = v
  | [], h => by cases h
  | y :: r, h => by
    rw [getK] at h
    by_cases hk : k = y.k
    · rw [if_pos hk] at h; exact ⟨y, List.mem_cons_self .., hk.symm, Option.some.inj h⟩
    · rw [if_neg hk] at h
      obtain ⟨x, h1, h2⟩ := getK_some h
      exact ⟨x, List.mem_cons_of_mem _ h1, h2⟩
/-- An entry: the old one's value, or one more. -/
def putKv (k : Int) (v : α) (t : Nat) : List (KA α) → List (KA α)
  | [] => [⟨k, v, t⟩]
  | x :: r => if k = x.k then { x with v := v } :: r else x :: putKv k v t r
theorem getK_putv {k j : Int} {v : α} {t : Nat} : ∀ c : List (KA α), getK j (putKv k v t c) = if j = k then some v else getK j c
  | [] => rfl
  | x :: r => by
    rw [putKv]
    by_cases h : k = x.k
    · rw [if_pos h, getK, getK]
      show (if j = x.k then some v else getK j r) = _
      by_cases h2 : j = k
      · rw [if_pos h2, if_pos (h2.trans h)]
      · rw [if_neg h2, if_neg (fun e => h2 (e.trans h.symm)), if_neg (fun e => h2 (e.trans h.symm))]
    · rw [if_neg h, getK, getK, getK_putv r]
      by_cases h2 : j = x.k
      · rw [if_pos h2, if_pos h2, if_neg (fun e => h (e.symm.trans h2))]
      · rw [if_neg h2, if_neg h2]
theorem putKv_keys {k : Int} {v : α} {t : Nat} : ∀ c : List (KA α), (putKv k v t c).map (·.k) = if k ∈ c.map (·.k) then c.map (·.k) else c.map (·.k) ++ [k]
  | [] => by simp [putKv]
  | x :: r => by
    rw [putKv]
    by_cases h : k = x.k
    · rw [if_pos h, if_pos (by simp [h])]; rfl
    · rw [if_neg h, List.map_cons, List.map_cons, putKv_keys r]
      by_cases h2 : k ∈ r.map (·.k)
      · rw [if_pos h2, if_pos (List.mem_cons_of_mem _ h2)]
      · rw [if_neg h2, if_neg (by simp only [List.mem_cons]; rintro (e | e); exact h e; exact h2 e)]; rfl
def putT (k : Int) (t : Nat) (c : List (KA α)) : Nat := if k ∈ c.map (·.k) then t else t + 1
def nthV (enc : α → Value) (c : List (KA α)) (j : Nat) : Value := ((c[j]?).map fun x => enc x.v).getD (.bool false)
theorem putKv_in {k : Int} {v : α} {t : Nat} (enc : α → Value) : ∀ (c : List (KA α)) (i : Nat), k ∈ c.map (·.k) → ∃ j, atKey k (va enc c) i = some (i + j, (nthV enc c j)) ∧ j < c.length ∧ (c[j]?.map (·.k)) = some k ∧ putKv k v t c = c.modify j (fun x => { x with v := v })
  | [], _, h => by cases h
  | x :: r, i, h => by
    by_cases hk : k = x.k
    · refine ⟨0, ?_, by simp, by simp [hk], by rw [putKv, if_pos hk]; rfl⟩
      show (if k = x.k then some (i, enc x.v) else _) = _
      rw [if_pos hk]; rfl
    · have h2 : k ∈ r.map (·.k) := by
        rw [List.map_cons] at h
        exact (List.mem_cons.1 h).resolve_left hk
      obtain ⟨j, h3, h4, h5, h6⟩ := putKv_in enc r (i + 1) h2
      refine ⟨j + 1, ?_, by simp; omega, h5, by rw [putKv, if_neg hk, h6]; rfl⟩
      show (if k = x.k then some (i, enc x.v) else atKey k (va enc r) (i + 1)) = _
      rw [if_neg hk, h3, show i + 1 + j = i + (j + 1) by omega]; rfl
theorem putKv_new {k : Int} {v : α} {t : Nat} : ∀ (c : List (KA α)), k ∉ c.map (·.k) → putKv k v t c = c ++ [⟨k, v, t⟩]
  | [], _ => rfl
  | x :: r, h => by
    rw [List.map_cons, List.mem_cons, not_or] at h
    rw [putKv, if_neg h.1, putKv_new r h.2]; rfl
theorem putKv_born {k : Int} {v : α} {t : Nat} {c : List (KA α)} : (putKv k v t c).map (·.b) = if k ∈ c.map (·.k) then c.map (·.b) else c.map (·.b) ++ [t] := by
  by_cases h : k ∈ c.map (·.k)
  · rw [if_pos h]
    revert h
    induction c with
    | nil => exact fun h => by cases h
    | cons x r ih =>
      intro h
      rw [putKv]
      by_cases hk : k = x.k
      · rw [if_pos hk]; rfl
      · rw [if_neg hk, List.map_cons, List.map_cons, ih ((List.mem_cons.1 h).resolve_left hk)]
  · rw [if_neg h, putKv_new c h, List.map_append]; rfl
theorem putKv_below {k : Int} {v : α} {t : Nat} {c : List (KA α)} (h : ∀ x ∈ c, x.b < t) : ∀ x ∈ putKv k v t c, x.b < putT k t c := by
  intro x hx
  have h1 : x.b ∈ (putKv k v t c).map (·.b) := List.mem_map.2 ⟨x, hx, rfl⟩
  rw [putKv_born] at h1
  unfold putT
  split at h1
  · obtain ⟨y, hy, e⟩ := List.mem_map.1 h1
    have := h y hy
    rename_i h2
    rw [if_pos h2]; omega
  · rename_i h2
    rw [if_neg h2]
    rcases List.mem_append.1 h1 with h1 | h1
    · obtain ⟨y, hy, e⟩ := List.mem_map.1 h1
      have := h y hy
      omega
    · have := List.mem_singleton.1 h1
      omega
theorem MapCA.int {enc : α → Value} {w : World} {g : Nat} {c : List (KA α)} {t : Nat} (h : MapCA enc w g c t) : MapI w g (va enc c) := ⟨_, t, h.blk, by simp [pairsOf, keysI, va, KA.e, Function.comp_def]⟩
end
/-- What a map of this kind is. -/
structure MapTA (P : Program) (T kT eT : TypeId) (z : Value) : Prop where
  map : P.underlying T = some (.map kT eT)
  int : P.underlying kT = some (.int .i64)
  zero : ∀ w, (zeroValue eT).run P w = .ok z w
section
variable {α : Type} {enc : α → Value} {z : Value} {P : Program} {o : Oper} {N : Nat} {K : Nat → Prop} {W w : World} {a : Act} {F : List (Nat × Value)} {L : List Asn} {T kT eT : TypeId} {p : Option Nat} {c : List (KA α)} {t : Nat} {k : Int} {v : α} {g : Nat}
theorem run_lookA (hT : MapTA P T kT eT z) (h : (Asn.mapA enc p c t).ok w) : (Instr.lookup T (.map p) (.int .i64 k) true).run P w = .ok (.tuple #[((getK k c).map enc).getD z, .bool (getK k c).isSome]) w := by
  have e1 : ∀ y : Option (Nat × Value), y.map (·.2) = (getK k c).map enc → Value.tuple #[(y.map (·.2)).getD z, .bool y.isSome] = .tuple #[((getK k c).map enc).getD z, .bool (getK k c).isSome] := by
    intro y hy
    have hs : y.isSome = (getK k c).isSome := by
      have := congrArg Option.isSome hy
      simpa using this
    rw [hy, hs]
  cases p with
  | some g => rw [run_lookup_ok w T kT eT g k (va enc c) z hT.map hT.int (hT.zero w) (MapCA.int h), e1 _ (atKey_va enc k c 0)]
  | none =>
    obtain rfl : c = [] := h
    have e2 := run_checkKey_int (P := P) w true 9999 kT k hT.int
    simp [Instr.lookup, run_underlying hT.map, e2, Instr.findKey, run_underlying hT.int, Instr.findNow, hT.zero, getK]
theorem run_lookA0 (hT : MapTA P T kT eT z) (h : (Asn.mapA enc p c t).ok w) : (Instr.lookup T (.map p) (.int .i64 k) false).run P w = .ok (((getK k c).map enc).getD z) w := by
  cases p with
  | some g => rw [run_lookup_int w T kT eT g k (va enc c) z hT.map hT.int (hT.zero w) (MapCA.int h), atKey_va]
  | none =>
    obtain rfl : c = [] := h
    have e2 := run_checkKey_int (P := P) w true 9999 kT k hT.int
    simp [Instr.lookup, run_underlying hT.map, e2, Instr.findKey, run_underlying hT.int, Instr.findNow, hT.zero, getK]
/-- 'v, ok := m[k]'. -/
theorem r_lookA {x y : Operand} (hT : MapTA P T kT eT z) (ho : o.op = .lookup T x y true) (hx : ev F x = some (.map p)) (hy : ev F y = some (.int .i64 k)) (hm : ∀ w, Sh K W w L → (Asn.mapA enc p c t).ok w) : Rn P o N K W F L (.tuple #[((getK k c).map enc).getD z, .bool (getK k c).isSome]) := fun a w h => by
  have key := run_lookA (k := k) hT (hm w h.sh)
  unfold execOp
  simp only [ho, h.fr.ev hx, h.fr.ev hy, Sem.run_bind, key, Result.andThen_ok, Sem.run_pure]
/-- 'm[k]'. -/
theorem r_lookA0 {x y : Operand} (hT : MapTA P T kT eT z) (ho : o.op = .lookup T x y false) (hx : ev F x = some (.map p)) (hy : ev F y = some (.int .i64 k)) (hm : ∀ w, Sh K W w L → (Asn.mapA enc p c t).ok w) : Rn P o N K W F L (((getK k c).map enc).getD z) := fun a w h => by
  have key := run_lookA0 (k := k) hT (hm w h.sh)
  unfold execOp
  simp only [ho, h.fr.ev hx, h.fr.ev hy, Sem.run_bind, key, Result.andThen_ok, Sem.run_pure]
/-- 'm == nil'. -/
theorem r_nilA {x y : Operand} {T' : TypeId} (hT : MapTA P T kT eT z) (ho : o.op = .binOp .eql T x y T') (hx : ev F x = some (.map p)) (hy : ev F y = some (.map none)) : Rn P o N K W F L (.bool p.isNone) := fun a w h => by
  have key := run_eqlNilM (P := P) (w := w) (p := p) hT.map
  have e1 : (eqGuard .eql T x y (.map p) (.map none)).run P w = .ok () w := by simp [eqGuard]
  unfold execOp
  simp only [ho, h.fr.ev hx, h.fr.ev hy, Sem.run_bind, e1, key, Result.andThen_ok, Sem.run_pure]
/-- 'len(m)'. -/
theorem r_lenA {x : Operand} (hT : MapTA P T kT eT z) (ho : o.op = .call ⟨.builtin .len, #[x], #[T]⟩) (hx : ev F x = some (.map p)) (hm : ∀ w, Sh K W w L → (Asn.mapA enc p c t).ok w) : Rn P o N K W F L (.int .i64 ((c.length : Nat) : Int)) := fun a w h => by
  have hok := hm w h.sh
  have e1 := h.fr.ev hx
  have key : (Builtin.len_ #[T] 0 #[.map p]).run P w = .ok (.int .i64 ((c.length : Nat) : Int)) w := by
    cases p with
    | none =>
      obtain rfl : c = [] := hok
      simp [Builtin.len_, run_underlying hT.map, goInt]
    | some g =>
      have h1 : MapCA enc w g c t := hok
      have e0 : (getObj g).run P w = .ok (.map (c.map (KA.e enc)).toArray t) w := by simp [getObj, Sem.run, h1.blk]
      simp [Builtin.len_, run_underlying hT.map, goInt, e0]
  have key2 : ∀ ty, (Builtin.len_ #[T] ty #[.map p]).run P w = .ok (.int .i64 ((c.length : Nat) : Int)) w := fun ty => key
  unfold execOp
  simp [ho, resolve, invoke, builtin, e1, key2]
/-- 'map[int]T{}'. -/
theorem x_makeA {d : Nat} (enc : α → Value) (h : St N K W a w F L) (ho : o.op = .makeMap T none) (hd : o.dst = some d) (hdN : Nat.blt d N = true) : Ex P o a w (fun a' w' => ∃ g : Nat, St N K W a' w' ((d, .map (some g)) :: F) (.mapA enc (some g) [] 0 :: L)) := by
  have hrun : (Instr.makeMap T none).run P w = .ok (.map (some w.heap.size)) (w.alloc (.map #[] 0)) := run_makeMap T w
  refine Ex.of_run (v := .map (some w.heap.size)) (w' := w.alloc (.map #[] 0)) ?_ ⟨w.heap.size, ?_⟩
  · unfold execOp
    simp only [ho, Option.map_none, Sem.run_bind, hrun, Result.andThen_ok, Sem.run_pure]
  · rw [hd]
    have h1 : Sh K W (w.alloc (.map #[] 0)) (.mapA enc (some w.heap.size) [] 0 :: L) :=
      h.sh.push (Chg.alloc _ w _) ⟨Go.heap_alloc_new w _, List.nodup_nil, fun x hx => (List.not_mem_nil hx).elim, List.nodup_nil⟩ (fun b hb => by rw [← Option.some.inj hb]; exact Nat.le_refl _) (fun b hb => hb.elim) (fun b _ hb => hb)
    exact ⟨h.fr.put d (by simpa [Nat.blt_eq] using hdN) _, h1⟩
theorem run_updA (hT : MapTA P T kT eT z) (h1 : MapCA enc w g c t) (k : Int) (v : α) : (Instr.mapUpdate T (.map (some g)) (.int .i64 k) (enc v)).run P w = .ok () (World.setMap w g ((putKv k v t c).map (KA.e enc)).toArray (putT k t c)) := by
  have e0 : (getObj g).run P w = .ok (.map (c.map (KA.e enc)).toArray t) w := by simp [getObj, Sem.run, h1.blk]
  have e1 : (Instr.findKey kT (.int .i64 k) (c.map (KA.e enc))).run P w = _ := run_findKey_int (P := P) w kT k (c.map (KA.e enc)).toArray (va enc c) hT.int (by simp [pairsOf, keysI, va, KA.e, Function.comp_def])
  have e2 := run_checkKey_int (P := P) w false 9999 kT k hT.int
  have e3 : ∀ es c, (setObj g (.map es c)).run P w = .ok () (World.setMap w g es c) := fun es c => by simp [setObj, Sem.run, h1.blk, World.setMap]
  by_cases hk : k ∈ c.map (·.k)
  · obtain ⟨j, h3, h4, h5, h6⟩ := putKv_in (v := v) (t := t) enc c 0 hk
    rw [h3, Nat.zero_add] at e1
    have h7 : c[j]? = some (c[j]'h4) := List.getElem?_eq_getElem h4
    have h8 : (c[j]'h4).k = k := by rw [h7] at h5; exact Option.some.inj h5
    have h9 : ((c.map (KA.e enc)).toArray.modify j fun e => { e with key := .int .i64 k, val := enc v }) = ((putKv k v t c).map (KA.e enc)).toArray := by
      rw [h6]
      apply Array.ext'
      apply List.ext_getElem?
      intro q
      simp only [Array.toList_modify, List.getElem?_modify, List.getElem?_map]
      by_cases hq : j = q
      · subst hq
        simp [h7, KA.e, h8]
      · simp [hq]
    unfold putT
    rw [if_pos hk, ← h9]
    simp [Instr.mapUpdate, run_underlying hT.map, e0, e1, e2, e3, Instr.keyThatStays, Instr.sameBits, List.getElem?_map, h7, KA.e, h8]
  · have h3 : atKey k (va enc c) 0 = none := by
      have := atKey_va enc k c 0
      rw [getK_none.2 hk] at this
      simpa using this
    rw [h3] at e1
    unfold putT
    rw [if_neg hk, putKv_new c hk]
    simp [Instr.mapUpdate, run_underlying hT.map, e0, e1, e2, e3, KA.e]
theorem MapCA.put {w' : World} (h1 : MapCA enc w g c t) (hb : w'.heap[g]? = some (.map ((putKv k v t c).map (KA.e enc)).toArray (putT k t c))) : MapCA enc w' g (putKv k v t c) (putT k t c) := by
  refine ⟨hb, ?_, putKv_below h1.below, ?_⟩
  · rw [putKv_born]
    split
    · exact h1.born
    · rw [List.nodup_append]
      refine ⟨h1.born, by simp, fun x hx y hy e => ?_⟩
      obtain ⟨q, hq, rfl⟩ := List.mem_map.1 hx
      have := h1.below q hq
      have := List.mem_singleton.1 hy
      omega
  · rw [putKv_keys]
    split
    · exact h1.keys
    · rename_i h2
      rw [List.nodup_append]
      refine ⟨h1.keys, by simp, fun x hx y hy e => h2 ?_⟩
      rw [← List.mem_singleton.1 hy, ← e]; exact hx
/-- 'm[k] = v'. -/
theorem x_updA {x y u : Operand} {i : Nat} {q : Value} (h : St N K W a w F L) (hT : MapTA P T kT eT z) (ho : o.op = .mapUpdate T x y u) (hd : o.dst = none) (hx : ev F x = some (.map (some g))) (hy : ev F y = some (.int .i64 k)) (hz : ev F u = some q) (hq : enc v = q) (hi : L[i]? = some (.mapA enc (some g) c t)) :
    Ex P o a w (fun a' w' => St N K W a' w' F (L.set i (.mapA enc (some g) (putKv k v t c) (putT k t c)))) := by
  subst hq
  have hok : MapCA enc w g c t := h.sh.ok _ (List.mem_of_getElem? hi)
  have hrun := run_updA (P := P) hT hok k v
  refine Ex.of_skip (w' := World.setMap w g ((putKv k v t c).map (KA.e enc)).toArray (putT k t c)) ?_ ?_
  · unfold execOp
    simp only [ho, h.fr.ev hx, h.fr.ev hy, h.fr.ev hz, Sem.run_bind, hrun, Result.andThen_ok, Sem.run_pure]
  · rw [hd]
    exact ⟨h.fr, h.sh.put hi (setMap_chg w g _ _) (hok.put (setMap_get hok.lt _ _)) (fun b hb => .inl hb) (fun b hb => hb.elim) (fun b _ hb => hb)⟩
theorem r_mkIfA {x : Operand} {u : Value} (hT : MapTA P T kT eT z) (ho : o.op = .makeInterface T x) (hx : ev F x = some u) : Rn P o N K W F L (.iface T u) := fun a w h => by
  have key : (Instr.makeInterface T u).run P w = .ok (.iface T u) w := by simp [Instr.makeInterface, run_underlying hT.map]
  unfold execOp
  simp only [ho, h.fr.ev hx, Sem.run_bind, key, Result.andThen_ok, Sem.run_pure]
theorem r_asrtA {x : Operand} {u : Value} {xT : TypeId} (hT : MapTA P T kT eT z) (ho : o.op = .typeAssert x xT T false) (hx : ev F x = some (.iface T u)) : Rn P o N K W F L u := fun a w h => by
  have key : (Instr.typeAssert (.iface T u) xT T false).run P w = .ok u w := by simp [Instr.typeAssert, run_underlying hT.map, go_sem, Result.andThen]
  unfold execOp
  simp only [ho, h.fr.ev hx, Sem.run_bind, key, Result.andThen_ok, Sem.run_pure]
/-- 'maps.clone(m)'. -/
theorem x_cloneA {d f : Nat} {fn : Func} {fo x : Operand} {tys : Array TypeId} (h : St N K W a w F L) (hf : P.funcs[f]? = some fn) (hname : (fn.name == "runtime.NumGoroutine") = false) (hb : fn.body.isNone = true) (hn : Extern.findNext fn = none) (he : Extern.find fn = some Extern.MapsClone.clone)
    (ho : o.op = .call ⟨.value fo, #[x], tys⟩) (hfo : ev F fo = some (.func (.func f) #[] #[])) (hx : ev F x = some (.iface T (.map (some g)))) (hm : (Asn.mapA enc (some g) c t).ok w) (hd : o.dst = some d) (hdN : Nat.blt d N = true) :
    Ex P o a w (fun a' w' => ∃ g' : Nat, St N K W a' w' ((d, .iface T (.map (some g'))) :: F) (.mapA enc (some g') c t :: L)) := by
  have h1 : MapCA enc w g c t := hm
  have e : Extern.MapsClone.clone #[.iface T (.map (some g))] = (getObj g >>= fun o => match o with
      | .map entries clock => (newObj (.map entries clock) >>= fun n => pure (.iface T (.map (some n))))
      | _ => stuck "maps.clone: a map expected") := rfl
  have e0 : (getObj g).run P w = .ok (.map (c.map (KA.e enc)).toArray t) w := by simp [getObj, Sem.run, h1.blk]
  have h2 : (Extern.MapsClone.clone #[.iface T (.map (some g))]).run P w = .ok (.iface T (.map (some w.heap.size))) (w.alloc (.map (c.map (KA.e enc)).toArray t)) := by
    rw [e]
    simp [e0, Result.andThen, go_sem]
  have h3 := run_callFunc_extern hf hname hb hn he #[.iface T (.map (some g))] w
  rw [h2] at h3
  refine Ex.of_run (v := .iface T (.map (some w.heap.size))) (w' := w.alloc (.map (c.map (KA.e enc)).toArray t)) ?_ ⟨w.heap.size, ?_⟩
  · unfold execOp
    simp [ho, resolve, h.fr.ev hfo, h.fr.ev hx, Deferred.ofValue, invoke, h3, Result.andThen]
  · rw [hd]
    exact ⟨h.fr.put d (by simpa [Nat.blt_eq] using hdN) _, h.sh.push (Chg.alloc _ w _) ⟨Go.heap_alloc_new w _, h1.born, h1.below, h1.keys⟩ (fun b hb => by rw [← Option.some.inj hb]; exact Nat.le_refl _) (fun b hb => hb.elim) (fun b _ hb => hb)⟩
end
-- ---------------------------------------------------------------- gone through
/-- What goes through a map: those seen. -/
def Asn.itA (p : Option Nat) (r t : Nat) (s : List Nat) : Asn where
  fp b := b = r
  rd _ := False
  ok w := w.heap[r]? = some (.mapIter p t s.toArray t)
  keep w w' h hb := (hb r (.inl rfl)).trans h
  lt w h b hb := by
    rcases hb with rfl | hb
    · exact (Array.getElem?_eq_some_iff.1 h).1
    · exact hb.elim
section
variable {α : Type} {enc : α → Value} {z : Value} {P : Program} {o : Oper} {N : Nat} {K : Nat → Prop} {W w : World} {a : Act} {F : List (Nat × Value)} {L : List Asn} {T kT eT : TypeId} {p : Option Nat} {c : List (KA α)} {t : Nat} {k : Int} {v : α} {g r : Nat} {s : List Nat}
theorem x_rangeA {d : Nat} {x : Operand} (h : St N K W a w F L) (hT : MapTA P T kT eT z) (ho : o.op = .range T x) (hx : ev F x = some (.map p)) (hm : (Asn.mapA enc p c t).ok w) (hd : o.dst = some d) (hdN : Nat.blt d N = true) :
    Ex P o a w (fun a' w' => ∃ r : Nat, St N K W a' w' ((d, .pointer (some ⟨r, 0, none⟩)) :: F) (.itA p r (if p = none then 0 else t) [] :: L)) := by
  have hrun : (Instr.range T (.map p)).run P w = .ok (.pointer (some ⟨w.heap.size, 0, none⟩)) (w.alloc (.mapIter p (if p = none then 0 else t) #[] (if p = none then 0 else t))) := by
    cases p with
    | none => exact run_range_nilMap w T kT eT hT.map
    | some g =>
      have h1 : MapCA enc w g c t := hm
      exact run_range_map (P := P) w T kT eT g _ t hT.map h1.blk
  refine Ex.of_run (v := .pointer (some ⟨w.heap.size, 0, none⟩)) (w' := w.alloc (.mapIter p (if p = none then 0 else t) #[] (if p = none then 0 else t))) ?_ ⟨w.heap.size, ?_⟩
  · unfold execOp
    simp only [ho, h.fr.ev hx, Sem.run_bind, hrun, Result.andThen_ok, Sem.run_pure]
  · rw [hd]
    exact ⟨h.fr.put d (by simpa [Nat.blt_eq] using hdN) _, h.sh.push (Chg.alloc _ w _) (Go.heap_alloc_new w _) (fun b hb => by rw [show b = w.heap.size from hb]; exact Nat.le_refl _) (fun b hb => hb.elim) (fun b _ hb => hb)⟩
theorem x_nextA {d i : Nat} {x : Operand} (h : St N K W a w F L) (ho : o.op = .next x false) (hx : ev F x = some (.pointer (some ⟨r, 0, none⟩))) (hi : L[i]? = some (.itA p r (if p = none then 0 else t) s)) (hm : ∀ w, Sh K W w L → (Asn.mapA enc p c t).ok w) (hd : o.dst = some d) (hdN : Nat.blt d N = true) :
    Ex P o a w (fun a' w' => (St N K W a' w' ((d, .tuple #[.bool false]) :: F) L ∧ ∀ x ∈ c, x.b ∈ s) ∨
      ∃ x : KA α, x ∈ c ∧ x.b ∉ s ∧ St N K W a' w' ((d, .tuple #[.bool true, .int .i64 x.k, enc x.v]) :: F) (L.set i (.itA p r (if p = none then 0 else t) (s ++ [x.b])))) := by
  have h2 : w.heap[r]? = some (.mapIter p (if p = none then 0 else t) s.toArray (if p = none then 0 else t)) := h.sh.ok _ (List.mem_of_getElem? hi)
  have hrl : r < w.heap.size := (Array.getElem?_eq_some_iff.1 h2).1
  have hm' := hm w h.sh
  cases p with
  | none =>
    obtain rfl : c = [] := hm'
    have hrun : ∀ ty, (Instr.next (.pointer (some ⟨r, 0, none⟩)) false ty).run P w = .ok (.tuple #[.bool false]) w := fun ty => by
      simp only [Instr.next, getObj, Sem.run_bind, Sem.run, h2, Result.andThen]
      rfl
    refine Ex.of_run (v := .tuple #[.bool false]) (w' := w) ?_ (.inl ⟨?_, fun x hx => by cases hx⟩)
    · unfold execOp
      simp only [ho, h.fr.ev hx, Sem.run_bind, hrun, Result.andThen_ok, Sem.run_pure]
    · rw [hd]; exact ⟨h.fr.put d (by simpa [Nat.blt_eq] using hdN) _, h.sh⟩
  | some g =>
    have h1 : MapCA enc w g c t := hm'
    rw [if_neg (by simp)] at h2
    have hne : g ≠ r := by
      intro e
      have := h1.blk
      rw [e, h2] at this
      cases this
    have hold : ∀ x ∈ (c.map (KA.e enc)).toArray.toList, x.born < t := by
      intro x hx
      obtain ⟨y, hy, rfl⟩ := List.mem_map.1 (by simpa using hx)
      exact h1.below y hy
    rcases run_next_at (P := P) w o.type r g t t s.toArray (c.map (KA.e enc)).toArray t h2 h1.blk hold (Nat.le_refl _) with ⟨h4, hrun⟩ | ⟨e, he, w1, hw1, hrun⟩
    · refine Ex.of_run (v := .tuple #[.bool false]) (w' := w) ?_ (.inl ⟨?_, ?_⟩)
      · unfold execOp
        simp only [ho, h.fr.ev hx, Sem.run_bind, hrun, Result.andThen_ok, Sem.run_pure]
      · rw [hd]; exact ⟨h.fr.put d (by simpa [Nat.blt_eq] using hdN) _, h.sh⟩
      · intro x hx
        apply Classical.byContradiction
        intro hn
        have hm2 : x.e enc ∈ leftOf (c.map (KA.e enc)).toArray s.toArray := by
          unfold leftOf
          rw [Array.mem_filter]
          refine ⟨by simpa using ⟨x, hx, rfl⟩, ?_⟩
          simp [KA.e, hn]
        have := Array.eq_empty_of_size_eq_zero h4
        rw [this] at hm2
        simp at hm2
    · have hm2 : e ∈ leftOf (c.map (KA.e enc)).toArray s.toArray := by simpa using he
      unfold leftOf at hm2
      rw [Array.mem_filter] at hm2
      obtain ⟨hm1, hm3⟩ := hm2
      obtain ⟨x, hxc, rfl⟩ : ∃ x ∈ c, x.e enc = e := by simpa using hm1
      have hxs : x.b ∉ s := by simpa [KA.e] using hm3
      refine Ex.of_run (v := .tuple #[.bool true, .int .i64 x.k, enc x.v]) (w' := Go.ChangeMaps.setBlock w1 r (.mapIter (some g) t (s.toArray.push (x.e enc).born) t)) ?_ (.inr ⟨x, hxc, hxs, ?_⟩)
      · unfold execOp
        simp only [ho, h.fr.ev hx, Sem.run_bind, hrun, Result.andThen_ok, Sem.run_pure]
        rfl
      · rw [hd]
        have hsh1 : Sh K W w1 L := by rcases hw1 with rfl | rfl; exact h.sh; exact h.sh.drew
        have hr1 : r < w1.heap.size := by rcases hw1 with rfl | rfl <;> exact hrl
        refine ⟨h.fr.put d (by simpa [Nat.blt_eq] using hdN) _, hsh1.put hi ⟨rfl, rfl, rfl, by simp [Go.ChangeMaps.setBlock], fun b hb hne => ?_⟩ ?_ (fun b hb => .inl hb) (fun b hb => hb.elim) (fun b _ hb => hb)⟩
        · show (w1.heap.setIfInBounds r _)[b]? = _
          rw [Array.getElem?_setIfInBounds_ne (fun e => hne e.symm)]
        · show (w1.heap.setIfInBounds r _)[r]? = _
          rw [Array.getElem?_setIfInBounds_self_of_lt hr1]
          simp [KA.e]
theorem r_entryA {x : Operand} {y : KA α} {i : Nat} (ho : o.op = .entry x) (hx : ev F x = some (.pointer (some ⟨r, 0, none⟩))) (hi : L[i]? = some (.itA p r (if p = none then 0 else t) (s ++ [y.b]))) (hm : ∀ w, Sh K W w L → (Asn.mapA enc p c t).ok w) (hy : y ∈ c) : Rn P o N K W F L (.tuple #[.int .i64 y.k, enc y.v]) := fun a w h => by
  have hm' := hm w h.sh
  cases p with
  | none =>
    obtain rfl : c = [] := hm'
    cases hy
  | some g =>
    have h2 : w.heap[r]? = some (.mapIter (some g) t (s ++ [y.b]).toArray t) := h.sh.ok _ (List.mem_of_getElem? hi)
    have h1 : MapCA enc w g c t := hm'
    have h2' : w.heap[r]? = some (.mapIter (some g) t (s.toArray.push (y.e enc).born) t) := by rw [h2]; simp [KA.e]
    have hrun := run_entry_at (P := P) w r g t s.toArray (c.map (KA.e enc)).toArray t (y.e enc) h2' h1.blk (by simpa using ⟨y, hy, rfl⟩) (by
      have := h1.born
      simpa [KA.e, Function.comp_def] using this)
    unfold execOp
    simp only [ho, h.fr.ev hx, Sem.run_bind, hrun, Result.andThen_ok, Sem.run_pure]
    rfl
end
/-- Those that are left to be seen. -/
def leftA {α : Type} (c : List (KA α)) (s : List Nat) : Nat := (c.filter fun x => !decide (x.b ∈ s)).length
section
variable {α : Type} {c : List (KA α)} {s : List Nat} {x : KA α}
theorem leftA_cons (y : KA α) (c : List (KA α)) (s : List Nat) : leftA (y :: c) s = (if y.b ∈ s then 0 else 1) + leftA c s := by
  unfold leftA
  rw [List.filter_cons]
  by_cases h : y.b ∈ s
  · rw [if_pos h, if_neg (by simp [h])]; omega
  · rw [if_neg h, if_pos (by simp [h]), List.length_cons]; omega
theorem leftA_le : ∀ c : List (KA α), leftA c (s ++ [x.b]) ≤ leftA c s
  | [] => Nat.le_refl _
  | y :: c => by
    have := leftA_le c
    rw [leftA_cons, leftA_cons]
    by_cases h : y.b ∈ s
    · rw [if_pos h, if_pos (List.mem_append_left _ h)]; omega
    · rw [if_neg h]; split <;> omega
theorem leftA_lt (hx : x ∈ c) (hs : x.b ∉ s) : leftA c (s ++ [x.b]) < leftA c s := by
  induction c with
  | nil => cases hx
  | cons y c ih =>
    have hk := leftA_le (s := s) (x := x) c
    rw [leftA_cons, leftA_cons]
    rcases List.mem_cons.1 hx with rfl | hx
    · rw [if_pos (List.mem_append_right _ (List.mem_singleton.2 rfl)), if_neg hs]; omega
    · have := ih hx
      by_cases h : y.b ∈ s
      · rw [if_pos h, if_pos (List.mem_append_left _ h)]; omega
      · rw [if_neg h]; split <;> omega
end
end Go.Proofs.Ytmgikmjmdppfmaa
