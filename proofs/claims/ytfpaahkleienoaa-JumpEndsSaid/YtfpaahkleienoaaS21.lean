/-
  Maps from numbers to numbers, gone through in whatever order, entries struck on the way. It imports nothing of the dump.
-/
import Derived.Test.YtfpaahkleienoaaS20
namespace Go.Proofs.Ytfpaahkleienoaa
open Go.RowKit
set_option linter.unusedSimpArgs false
set_option linter.unusedVariables false

/-- A map and one that goes through it: those seen. -/
def Asn.itZ (g r t : Nat) (c : List KE) (s : List Nat) : Asn where
  fp b := b = g ∨ b = r
  rd _ := False
  ok w := MapC w g c t ∧ w.heap[r]? = some (.mapIter (some g) t s.toArray t) ∧ g ≠ r
  keep w w' h hb := ⟨h.1.of_block (hb g (.inl (.inl rfl))), (hb r (.inl (.inr rfl))).trans h.2.1, h.2.2⟩
  lt w h b hb := by
    rcases hb with (rfl | rfl) | hb
    · exact h.1.lt
    · exact (Array.getElem?_eq_some_iff.1 h.2.1).1
    · exact hb.elim
section
variable {P : Program} {o : Oper} {N : Nat} {K : Nat → Prop} {W w : World} {a : Act} {F : List (Nat × Value)} {L : List Asn} {T kT eT : TypeId} {l : List (Int × Int)} {g r t : Nat} {c : List KE} {s : List Nat}
theorem x_rangeZ {d i : Nat} {x : Operand} (h : St N K W a w F L) (hT : MapTZ P T kT eT) (ho : o.op = .range T x) (hx : ev F x = some (.map (some g))) (hi : L[i]? = some (.mapO (some g) l)) (hd : o.dst = some d) (hdN : Nat.blt d N = true) :
    Ex P o a w (fun a' w' => ∃ (r t : Nat) (c : List KE), c.map KE.kv = l ∧ (c.map (·.b)).Nodup ∧ (c.map (·.k)).Nodup ∧ St N K W a' w' ((d, .pointer (some ⟨r, 0, none⟩)) :: F) (L.set i (.itZ g r t c []))) := by
  have hok : MapZ w g l := h.sh.ok _ (List.mem_of_getElem? hi)
  obtain ⟨c, t, h1, h2⟩ := hok
  have hlt := h1.lt
  have hrun := run_range_map (P := P) w T kT eT g (c.map KE.e).toArray t hT.map h1.blk
  refine Ex.of_run (v := .pointer (some ⟨w.heap.size, 0, none⟩)) (w' := w.alloc (.mapIter (some g) t #[] t)) ?_ ⟨w.heap.size, t, c, h2, h1.born, h1.keys, ?_⟩
  · unfold execOp
    simp only [ho, h.fr.ev hx, Sem.run_bind, hrun, Result.andThen_ok, Sem.run_pure]
  · rw [hd]
    refine ⟨h.fr.put d (by simpa [Nat.blt_eq] using hdN) _, h.sh.put hi (Chg.alloc _ w _) ⟨h1.of_block (Below.heap_alloc w _ g hlt), Go.heap_alloc_new w _, by omega⟩ (fun b hb => ?_) (fun b hb => hb.elim) (fun b _ hb => hb)⟩
    rcases hb with rfl | rfl
    · exact .inl rfl
    · exact .inr (Nat.le_refl _)
theorem x_nextZ {d i : Nat} {x : Operand} (h : St N K W a w F L) (ho : o.op = .next x false) (hx : ev F x = some (.pointer (some ⟨r, 0, none⟩))) (hi : L[i]? = some (.itZ g r t c s)) (hd : o.dst = some d) (hdN : Nat.blt d N = true) :
    Ex P o a w (fun a' w' => (St N K W a' w' ((d, .tuple #[.bool false]) :: F) L ∧ ∀ x ∈ c, x.b ∈ s) ∨
      ∃ x : KE, x ∈ c ∧ x.b ∉ s ∧ St N K W a' w' ((d, .tuple #[.bool true, .int .i64 x.k, .int .i64 x.v]) :: F) (L.set i (.itZ g r t c (s ++ [x.b])))) := by
  obtain ⟨h1, h2, h3⟩ := h.sh.ok _ (List.mem_of_getElem? hi)
  have hold : ∀ x ∈ (c.map KE.e).toArray.toList, x.born < t := by
    intro x hx
    obtain ⟨y, hy, rfl⟩ := List.mem_map.1 (by simpa using hx)
    exact h1.below y hy
  have hrl : r < w.heap.size := (Array.getElem?_eq_some_iff.1 h2).1
  rcases run_next_at (P := P) w o.type r g t t s.toArray (c.map KE.e).toArray t h2 h1.blk hold (Nat.le_refl _) with ⟨h4, hrun⟩ | ⟨e, he, w1, hw1, hrun⟩
  · refine Ex.of_run (v := .tuple #[.bool false]) (w' := w) ?_ (.inl ⟨?_, ?_⟩)
    · unfold execOp
      simp only [ho, h.fr.ev hx, Sem.run_bind, hrun, Result.andThen_ok, Sem.run_pure]
    · rw [hd]; exact ⟨h.fr.put d (by simpa [Nat.blt_eq] using hdN) _, h.sh⟩
    · intro x hx
      apply Classical.byContradiction
      intro hn
      have hm : x.e ∈ leftOf (c.map KE.e).toArray s.toArray := by
        unfold leftOf
        rw [Array.mem_filter]
        refine ⟨by simpa using ⟨x, hx, rfl⟩, ?_⟩
        simp [KE.e, hn]
      have := Array.eq_empty_of_size_eq_zero h4
      rw [this] at hm
      simp at hm
  · have hm : e ∈ leftOf (c.map KE.e).toArray s.toArray := by simpa using he
    unfold leftOf at hm
    rw [Array.mem_filter] at hm
    obtain ⟨hm1, hm2⟩ := hm
    obtain ⟨x, hxc, rfl⟩ : ∃ x ∈ c, x.e = e := by simpa using hm1
    have hxs : x.b ∉ s := by simpa [KE.e] using hm2
    refine Ex.of_run (v := .tuple #[.bool true, .int .i64 x.k, .int .i64 x.v]) (w' := Go.ChangeMaps.setBlock w1 r (.mapIter (some g) t (s.toArray.push x.e.born) t)) ?_ (.inr ⟨x, hxc, hxs, ?_⟩)
    · unfold execOp
      simp only [ho, h.fr.ev hx, Sem.run_bind, hrun, Result.andThen_ok, Sem.run_pure]
      rfl
    · rw [hd]
      have hsh1 : Sh K W w1 L := by rcases hw1 with rfl | rfl; exact h.sh; exact h.sh.drew
      have hr1 : r < w1.heap.size := by rcases hw1 with rfl | rfl <;> exact hrl
      have hg1 : w1.heap[g]? = w.heap[g]? := by rcases hw1 with rfl | rfl <;> rfl
      refine ⟨h.fr.put d (by simpa [Nat.blt_eq] using hdN) _, hsh1.put hi ⟨rfl, rfl, rfl, by simp [Go.ChangeMaps.setBlock], fun b hb hne => ?_⟩ ⟨?_, ?_, h3⟩ (fun b hb => .inl hb) (fun b hb => hb.elim) (fun b _ hb => hb)⟩
      · show (w1.heap.setIfInBounds r _)[b]? = _
        rw [Array.getElem?_setIfInBounds_ne (fun e => hne (.inr e.symm))]
      · refine MapC.of_block (w := w) h1 ?_
        show (w1.heap.setIfInBounds r _)[g]? = _
        rw [Array.getElem?_setIfInBounds_ne (fun e => h3 e.symm), hg1]
      · show (w1.heap.setIfInBounds r _)[r]? = _
        rw [Array.getElem?_setIfInBounds_self_of_lt hr1]
        simp [KE.e]
theorem r_entryZ {x : Operand} {y : KE} {i : Nat} (ho : o.op = .entry x) (hx : ev F x = some (.pointer (some ⟨r, 0, none⟩))) (hi : L[i]? = some (.itZ g r t c (s ++ [y.b]))) (hy : y ∈ c) : Rn P o N K W F L (.tuple #[.int .i64 y.k, .int .i64 y.v]) := fun a w h => by
  obtain ⟨h1, h2, h3⟩ := h.sh.ok _ (List.mem_of_getElem? hi)
  have h2' : w.heap[r]? = some (.mapIter (some g) t (s.toArray.push y.e.born) t) := by rw [h2]; simp [KE.e]
  have hrun := run_entry_at (P := P) w r g t s.toArray (c.map KE.e).toArray t y.e h2' h1.blk (by simpa using ⟨y, hy, rfl⟩) (by
    have := h1.born
    simpa [KE.e, Function.comp_def] using this)
  unfold execOp
  simp only [ho, h.fr.ev hx, Sem.run_bind, hrun, Result.andThen_ok, Sem.run_pure]
  rfl
theorem atKey_idx (k : Int) : ∀ (c : List KE) (i : Nat), (c.map (·.k)).Nodup → match atKey k (vz (c.map KE.kv)) i with
    | none => c.filter (fun y => !decide (y.k = k)) = c
    | some (j, _) => i ≤ j ∧ c.filter (fun y => !decide (y.k = k)) = c.eraseIdx (j - i) ∧ j - i < c.length
  | [], i, _ => rfl
  | x :: c, i, hn => by
    rw [List.map_cons, List.nodup_cons] at hn
    have ih := atKey_idx k c (i + 1) hn.2
    show match (if k = x.k then some (i, Value.int .i64 x.v) else atKey k (vz (c.map KE.kv)) (i + 1)) with
      | none => _
      | some (j, _) => _
    by_cases h : k = x.k
    · rw [if_pos h]
      refine ⟨Nat.le_refl _, ?_, by simp⟩
      rw [List.filter_cons, if_neg (by simp [h]), Nat.sub_self, List.eraseIdx_cons_zero, List.filter_eq_self]
      intro y hy
      have : y.k ≠ k := fun e => hn.1 (by rw [← h, ← e]; exact List.mem_map.2 ⟨y, hy, rfl⟩)
      simp [this]
    · rw [if_neg h]
      cases ha : atKey k (vz (c.map KE.kv)) (i + 1) with
      | none =>
        rw [ha] at ih
        show List.filter _ (x :: c) = x :: c
        rw [List.filter_cons, if_pos (by simp; exact fun e => h e.symm)]
        exact congrArg _ ih
      | some z =>
        rw [ha] at ih
        obtain ⟨i1, i2, i3⟩ := ih
        refine ⟨by omega, ?_, by simp; omega⟩
        rw [List.filter_cons, if_pos (by simp; exact fun e => h e.symm), i2, show z.1 - i = (z.1 - (i + 1)) + 1 by omega, List.eraseIdx_cons_succ]
theorem eraseIdx_mapKE : ∀ (c : List KE) (i : Nat), (c.map KE.e).eraseIdx i = (c.eraseIdx i).map KE.e
  | [], _ => rfl
  | _ :: _, 0 => rfl
  | x :: c, i + 1 => by rw [List.map_cons, List.eraseIdx_cons_succ, List.eraseIdx_cons_succ, List.map_cons, eraseIdx_mapKE c i]
theorem run_delZ {w : World} {k : Int} (hT : MapTZ P T kT eT) (h1 : MapC w g c t) (tys : Array TypeId) (ht : tys[0]? = some T) (ty : TypeId) :
    (Builtin.delete_ tys ty #[.map (some g), .int .i64 k]).run P w = .ok (.tuple #[]) (World.setMap w g ((c.filter fun y => !decide (y.k = k)).map KE.e).toArray t) := by
  have e0 : (getObj g).run P w = .ok (.map (c.map KE.e).toArray t) w := by simp [getObj, Sem.run, h1.blk]
  have e1 := run_findKey_int (P := P) w kT k (c.map KE.e).toArray (vz (c.map KE.kv)) hT.int (by simp [pairsOf, keysI, vz, KE.e, KE.kv, Function.comp_def])
  have e2 := fun b => run_checkKey_int (P := P) w b 9999 kT k hT.int
  have e3 : ∀ es t, (setObj g (.map es t)).run P w = .ok () (World.setMap w g es t) := fun es t => by simp [setObj, Sem.run, h1.blk, World.setMap]
  have e4 := atKey_idx k c 0 h1.keys
  have e5 : (Instr.findKey kT (.int .i64 k) (c.map KE.e)).run P w = _ := e1
  cases ha : atKey k (vz (c.map KE.kv)) 0 with
  | none =>
    rw [ha] at e4 e5
    have e4' : (c.filter fun y => !decide (y.k = k)) = c := e4
    rw [e4']
    simp [Builtin.delete_, ht, run_underlying hT.map, e0, e2, e5, e3]
  | some z =>
    rw [ha] at e4 e5
    obtain ⟨_, i2, i3⟩ := e4
    rw [i2]
    have : (List.map KE.e c).eraseIdx z.1 = List.map KE.e (c.eraseIdx (z.1 - 0)) := by rw [Nat.sub_zero]; exact eraseIdx_mapKE _ _
    have e6 : (List.map KE.e c).toArray.eraseIdxIfInBounds z.1 = (List.map KE.e (c.eraseIdx (z.1 - 0))).toArray := by
      rw [← this]
      unfold Array.eraseIdxIfInBounds
      have : z.1 < (List.map KE.e c).toArray.size := by simpa using i3
      rw [dif_pos this]
      simp
    have e7 : (Instr.findKey kT (.int .i64 k) (List.map KE.e c)).run P w = .ok (some (z.1, z.2)) w := e5
    simp only [Builtin.delete_, ht, Sem.run_bind, run_underlying hT.map, Result.andThen_ok, e0, e2, e7, e3, e6, Sem.run_pure, List.getElem?_toArray, List.getElem?_cons_zero, List.getElem?_cons_succ]
/-- 'delete(m, k)'. -/
theorem x_delZ {x y : Operand} {i : Nat} {k : Int} {tys : Array TypeId} (h : St N K W a w F L) (hT : MapTZ P T kT eT) (ht : tys[0]? = some T) (ho : o.op = .call ⟨.builtin .delete, #[x, y], tys⟩) (hd : o.dst = none) (hx : ev F x = some (.map (some g))) (hy : ev F y = some (.int .i64 k)) (hi : L[i]? = some (.itZ g r t c s)) :
    Ex P o a w (fun a' w' => St N K W a' w' F (L.set i (.itZ g r t (c.filter fun y => !decide (y.k = k)) s))) := by
  obtain ⟨h1, h2, h3⟩ := h.sh.ok _ (List.mem_of_getElem? hi)
  have hrun := fun ty => run_delZ (P := P) (k := k) hT h1 tys ht ty
  have hsub : (c.filter fun y => !decide (y.k = k)).Sublist c := List.filter_sublist
  refine Ex.of_run (v := .tuple #[]) (w' := World.setMap w g ((c.filter fun y => !decide (y.k = k)).map KE.e).toArray t) ?_ ?_
  · unfold execOp
    simp [ho, resolve, invoke, builtin, h.fr.ev hx, h.fr.ev hy, hrun]
  · rw [hd]
    refine ⟨h.fr, h.sh.put hi ((setMap_chg w g _ _).mono fun b hb => .inl (Option.some.inj hb).symm) ⟨⟨setMap_get h1.lt _ _, h1.born.sublist (hsub.map _), fun x hx => h1.below x (hsub.subset hx), h1.keys.sublist (hsub.map _)⟩, ?_, h3⟩ (fun b hb => .inl hb) (fun b hb => hb.elim) (fun b _ hb => hb)⟩
    show (w.heap.setIfInBounds g _)[r]? = _
    rw [Array.getElem?_setIfInBounds_ne h3]
    exact h2
theorem Sh.doneZ {i : Nat} (h : Sh K W w L) (hi : L[i]? = some (.itZ g r t c s)) : Sh K W w (L.set i (.mapO (some g) (c.map KE.kv))) := by
  obtain ⟨h1, h2, h3⟩ := h.ok _ (List.mem_of_getElem? hi)
  exact h.put hi (Chg.refl _ _) ⟨c, t, h1, rfl⟩ (fun b hb => .inl (.inl (Option.some.inj hb).symm)) (fun b hb => hb.elim) (fun b _ hb => hb)
theorem St.reZ {i : Nat} {c' : List KE} (h : St N K W a w F L) (hi : L[i]? = some (.itZ g r t c s)) (e : c = c') : St N K W a w F (L.set i (.itZ g r t c' s)) := by
  subst e
  have : L.set i (.itZ g r t c s) = L := by
    obtain ⟨hlt, e⟩ := List.getElem?_eq_some_iff.1 hi
    rw [← e]; exact List.set_getElem_self hlt
  rw [this]; exact h
theorem St.endZ {i : Nat} {l' : List (Int × Int)} (h : St N K W a w F L) (hi : L[i]? = some (.itZ g r t c s)) (e : c.map KE.kv = l') : St N K W a w F (L.set i (.mapO (some g) l')) := by
  subst e
  exact ⟨h.fr, h.sh.doneZ hi⟩
end
-- ---------------------------------------------------------------- what is struck on the way
def keepZ (pd : Int → Int → Bool) (c : List KE) (s : List Nat) : List KE := c.filter fun x => !(decide (x.b ∈ s) && pd x.k x.v)
def leftZ (c : List KE) (s : List Nat) : Nat := (c.filter fun x => !decide (x.b ∈ s)).length
section
variable {pd : Int → Int → Bool} {c : List KE} {s : List Nat} {x : KE}
theorem keepZ_nil : keepZ pd c [] = c := by
  unfold keepZ
  rw [List.filter_eq_self]
  intro x _
  simp
theorem keepZ_mem (h : x ∈ keepZ pd c s) : x ∈ c := (List.mem_filter.1 h).1
theorem ke_born (hb : (c.map (·.b)).Nodup) {y : KE} (hx : x ∈ c) (hy : y ∈ c) (e : y.b = x.b) : y = x := by
  induction c with
  | nil => cases hx
  | cons z c ih =>
    rw [List.map_cons, List.nodup_cons] at hb
    rcases List.mem_cons.1 hx with rfl | hx
    · rcases List.mem_cons.1 hy with rfl | hy
      · rfl
      · exact absurd (List.mem_map.2 ⟨y, hy, e⟩) hb.1
    · rcases List.mem_cons.1 hy with e2 | hy
      · exact absurd (List.mem_map.2 ⟨x, hx, by rw [← e2]; exact e.symm⟩) hb.1
      · exact ih hb.2 hx hy
theorem ke_key (hb : (c.map (·.k)).Nodup) {y : KE} (hx : x ∈ c) (hy : y ∈ c) (e : y.k = x.k) : y = x := by
  induction c with
  | nil => cases hx
  | cons z c ih =>
    rw [List.map_cons, List.nodup_cons] at hb
    rcases List.mem_cons.1 hx with rfl | hx
    · rcases List.mem_cons.1 hy with rfl | hy
      · rfl
      · exact absurd (List.mem_map.2 ⟨y, hy, e⟩) hb.1
    · rcases List.mem_cons.1 hy with e2 | hy
      · exact absurd (List.mem_map.2 ⟨x, hx, by rw [← e2]; exact e.symm⟩) hb.1
      · exact ih hb.2 hx hy
theorem keepZ_no (hb : (c.map (·.b)).Nodup) (hx : x ∈ c) (hp : pd x.k x.v = false) : keepZ pd c s = keepZ pd c (s ++ [x.b]) := by
  unfold keepZ
  apply List.filter_congr
  intro y hy
  by_cases e : y.b = x.b
  · obtain rfl := ke_born hb hx hy e
    simp [hp]
  · simp [e]
theorem keepZ_yes (hb : (c.map (·.b)).Nodup) (hk : (c.map (·.k)).Nodup) (hx : x ∈ c) (hp : pd x.k x.v = true) : (keepZ pd c s).filter (fun y => !decide (y.k = x.k)) = keepZ pd c (s ++ [x.b]) := by
  unfold keepZ
  rw [List.filter_filter]
  apply List.filter_congr
  intro y hy
  by_cases e : y.b = x.b
  · obtain rfl := ke_born hb hx hy e
    simp [hp]
  · have e2 : y.k ≠ x.k := fun e2 => e (by rw [ke_key hk hx hy e2])
    simp [e, e2]
theorem leftZ_cons (y : KE) (c : List KE) (s : List Nat) : leftZ (y :: c) s = (if y.b ∈ s then 0 else 1) + leftZ c s := by
  unfold leftZ
  rw [List.filter_cons]
  by_cases h : y.b ∈ s
  · rw [if_pos h, if_neg (by simp [h])]; omega
  · rw [if_neg h, if_pos (by simp [h]), List.length_cons]; omega
theorem leftZ_le : ∀ c : List KE, leftZ c (s ++ [x.b]) ≤ leftZ c s
  | [] => Nat.le_refl _
  | y :: c => by
    have := leftZ_le c
    rw [leftZ_cons, leftZ_cons]
    by_cases h : y.b ∈ s
    · rw [if_pos h, if_pos (List.mem_append_left _ h)]; omega
    · rw [if_neg h]; split <;> omega
theorem leftZ_lt (hx : x ∈ c) (hs : x.b ∉ s) : leftZ c (s ++ [x.b]) < leftZ c s := by
  induction c with
  | nil => cases hx
  | cons y c ih =>
    have hk := leftZ_le (s := s) (x := x) c
    rw [leftZ_cons, leftZ_cons]
    rcases List.mem_cons.1 hx with rfl | hx
    · rw [if_pos (List.mem_append_right _ (List.mem_singleton.2 rfl)), if_neg hs]; omega
    · have := ih hx
      by_cases h : y.b ∈ s
      · rw [if_pos h, if_pos (List.mem_append_left _ h)]; omega
      · rw [if_neg h]; split <;> omega
theorem keepZ_end (h : ∀ x ∈ keepZ pd c s, x.b ∈ s) : (keepZ pd c s).map KE.kv = (c.map KE.kv).filter fun z => !pd z.1 z.2 := by
  rw [List.filter_map]
  congr 1
  unfold keepZ at h ⊢
  apply List.filter_congr
  intro y hy
  show _ = !pd y.k y.v
  by_cases hp : pd y.k y.v = true
  · by_cases hs : y.b ∈ s
    · simp [hs]
    · exact absurd (h y (by rw [List.mem_filter]; exact ⟨hy, by simp [hs]⟩)) hs
  · simp [hp]
end
end Go.Proofs.Ytfpaahkleienoaa
