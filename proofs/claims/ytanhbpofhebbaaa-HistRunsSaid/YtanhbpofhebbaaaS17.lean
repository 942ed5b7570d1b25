/-
  Maps with rows: looked up, entered, a row that grows, put back. It imports nothing of the dump.
-/
import Derived.Test.YtanhbpofhebbaaaS16
namespace Go.Proofs.Ytanhbpofhebbaaa
open Go.RowKit
set_option linter.unusedSimpArgs false
set_option linter.unusedVariables false

theorem findIdx_born : ∀ (l : List (List Nat × Value)) (i q : Nat), q < l.length → (entL l i).findIdx? (fun e => (e.born : Int) == ((i + q : Nat) : Int)) = some q
  | [], _, _, h => by simp at h
  | x :: r, i, 0, _ => by simp [entL, List.findIdx?_cons]
  | x :: r, i, q + 1, h => by
    have ih := findIdx_born r (i + 1) q (by simpa using h)
    have e : ((i : Int) == ((i + (q + 1) : Nat) : Int)) = false := by simp; omega
    rw [entL, List.findIdx?_cons]
    simp only [e, Bool.false_eq_true, if_false]
    rw [show i + (q + 1) = i + 1 + q by omega, ih]
    rfl
theorem entL_modify (v : Value) : ∀ (l : List (List Nat × Value)) (i q : Nat) (x : List Nat × Value), l[q]? = some x → (entL l i).modify q (fun e => { e with val := v }) = entL (l.set q (x.1, v)) i
  | [], _, _, _, h => by simp at h
  | y :: r, i, 0, x, h => by
    obtain rfl : y = x := by simpa using h
    rfl
  | y :: r, i, q + 1, x, h => by
    have ih := entL_modify v r (i + 1) q x (by simpa using h)
    rw [entL, List.set_cons_succ, entL, List.modify_succ_cons, ih]
theorem entL_keep : ∀ (l : List (List Nat × Value)) (i q : Nat) (x : List Nat × Value), l[q]? = some x → (entL l i).modify q (fun e => { e with key := kvV x.1 }) = entL l i
  | [], _, _, _, h => by simp at h
  | y :: r, i, 0, x, h => by
    obtain rfl : y = x := by simpa using h
    rfl
  | y :: r, i, q + 1, x, h => by
    have ih := entL_keep r (i + 1) q x (by simpa using h)
    rw [entL, List.modify_succ_cons, ih]
section
variable {α : Type} [Enc α]
def seenX (E : TypeId) (g : Nat) (M : List (List Nat × Ls α)) : List Asn := .mapB g (kvs M) :: M.map fun x => .own E x.2
def seenH (E : TypeId) (g : Nat) (M : List (List Nat × Ls α)) (i : Nat) : List Asn := .mapB g (kvs M) :: (M.eraseIdx i).map fun x => .own E x.2
end
section
variable {α : Type}
theorem rowK_none {k : List Nat} {M : List (List Nat × Ls α)} (h : findK k (kvs M) = none) : ensK k M = M ++ [(k, ⟨.slice none 0 0, []⟩)] ∧ idxK k M = M.length ∧ rowK k M = ⟨.slice none 0 0, []⟩ := by
  have e1 : ensK k M = M ++ [(k, ⟨.slice none 0 0, []⟩)] := by unfold ensK; rw [if_pos h]
  have e2 : idxK k M = M.length := by unfold idxK; rw [h]; rfl
  refine ⟨e1, e2, ?_⟩
  unfold rowK
  rw [e1, e2]
  simp [nth]
theorem rowK_some {k : List Nat} {M : List (List Nat × Ls α)} {q : Nat} (h : findK k (kvs M) = some q) : ensK k M = M ∧ idxK k M = q ∧ q < M.length ∧ (nth M q).1 = k ∧ rowK k M = (nth M q).2 := by
  have e1 : ensK k M = M := by unfold ensK; rw [if_neg (by rw [h]; simp)]
  have e2 : idxK k M = q := by unfold idxK; rw [h]; rfl
  obtain ⟨x, hx, hk⟩ := findK_some h
  have hq : q < M.length := by
    have := (List.getElem?_eq_some_iff.1 hx).1
    rwa [kvs_len] at this
  refine ⟨e1, e2, hq, ?_, ?_⟩
  · rw [kvs_get hq] at hx
    have := Option.some.inj hx
    rw [← this] at hk
    exact hk
  · unfold rowK
    rw [e1, e2]
theorem idxK_lt (k : List Nat) (M : List (List Nat × Ls α)) : idxK k M < (ensK k M).length := by
  cases h : findK k (kvs M) with
  | none => obtain ⟨h1, h2, _⟩ := rowK_none h; rw [h1, h2]; simp
  | some q => obtain ⟨h1, h2, h3, _⟩ := rowK_some h; rw [h1, h2]; exact h3
theorem ensK_key (k : List Nat) (M : List (List Nat × Ls α)) : (nth (ensK k M) (idxK k M)).1 = k := by
  cases h : findK k (kvs M) with
  | none => obtain ⟨h1, h2, _⟩ := rowK_none h; rw [h1, h2]; simp [nth]
  | some q => obtain ⟨h1, h2, h3, h4, _⟩ := rowK_some h; rw [h1, h2]; exact h4
theorem ensK_len {k : List Nat} {M : List (List Nat × Ls α)} {n : Nat} (hk : k.length = n) (hM : ∀ x ∈ M, x.1.length = n) : ∀ x ∈ ensK k M, x.1.length = n := by
  intro x hx
  unfold ensK at hx
  split at hx
  · rcases List.mem_append.1 hx with hx | hx
    · exact hM x hx
    · obtain rfl : x = _ := by simpa using hx
      exact hk
  · exact hM x hx
theorem kvs_mem {M : List (List Nat × Ls α)} {n : Nat} (hM : ∀ x ∈ M, x.1.length = n) : ∀ x ∈ kvs M, x.1.length = n := by
  intro x hx
  obtain ⟨y, hy, rfl⟩ := List.mem_map.1 hx
  exact hM y hy
end
section
variable {P : Program} {w : World} {α : Type} {g : Nat} {M : List (List Nat × Ls α)} {T kT eT eK : TypeId} {n : Nat} {k : List Nat}
theorem run_mapEntry (hT : MapT P T kT eT eK n) (hk : k.length = n) (hM : ∀ x ∈ M, x.1.length = n) (h1 : w.heap[g]? = some (.map (entL (kvs M) 0).toArray (kvs M).length)) :
    ∃ w', (Instr.mapEntry T (.map (some g)) (kvV k)).run P w = .ok (.tuple #[(nth (ensK k M) (idxK k M)).2.v, .int .i64 ((idxK k M : Nat) : Int)]) w' ∧ Chg (fun b => b = g) w w' ∧ w'.heap[g]? = some (.map (entL (kvs (ensK k M)) 0).toArray (kvs (ensK k M)).length) := by
  have hlt : g < w.heap.size := (Array.getElem?_eq_some_iff.1 h1).1
  have e0 : (getObj g).run P w = .ok (.map (entL (kvs M) 0).toArray (kvs M).length) w := by simp [getObj, Sem.run, h1]
  have e1 := run_findKey hT hk w (kvs M) 0 (kvs_mem hM)
  have e2 := fun b => run_checkKeyAn hT hk b w
  have hch : ∀ es c, Chg (fun b => b = g) w (World.setMap w g es c) := fun es c => ⟨rfl, rfl, rfl, by simp [World.setMap], fun b hb hne => by
    show (w.heap.setIfInBounds g _)[b]? = _
    rw [Array.getElem?_setIfInBounds_ne (fun e => hne e.symm)]⟩
  have hget : ∀ es c, (World.setMap w g es c).heap[g]? = some (.map es c) := fun es c => by
    show (w.heap.setIfInBounds g _)[g]? = _
    rw [Array.getElem?_setIfInBounds_self_of_lt hlt]
  have e3 : ∀ es c, (setObj g (.map es c)).run P w = .ok () (World.setMap w g es c) := fun es c => by simp [setObj, Sem.run, h1, World.setMap]
  cases hf : findK k (kvs M) with
  | none =>
    obtain ⟨h2, h3, h4⟩ := rowK_none hf
    rw [hf] at e1
    refine ⟨World.setMap w g ((entL (kvs M) 0).toArray.push { key := kvV k, val := .slice none 0 0, born := (kvs M).length }) ((kvs M).length + 1), ?_, hch _ _, ?_⟩
    · have e4 : (nth (ensK k M) (idxK k M)).2 = ⟨.slice none 0 0, []⟩ := h4
      rw [e4, h3]
      simp [Instr.mapEntry, run_underlying hT.map, e0, e1, e2, hT.zero, e3, goInt, kvs_len]
    · rw [hget, h2]
      have : kvs (M ++ [(k, (⟨.slice none 0 0, []⟩ : Ls α))]) = kvs M ++ [(k, .slice none 0 0)] := by simp [kvs]
      rw [this, entL_append]
      simp
  | some q =>
    obtain ⟨h2, h3, h4, h5, h6⟩ := rowK_some hf
    rw [hf] at e1
    simp only [Option.bind_some, kvs_get h4, Option.map_some] at e1
    have hg := entL_get (kvs M) 0 q _ (kvs_get h4)
    rw [h5] at hg
    have hm := entL_keep (kvs M) 0 q _ (kvs_get h4)
    rw [h5] at hm
    refine ⟨World.setMap w g (entL (kvs M) 0).toArray (kvs M).length, ?_, hch _ _, by rw [hget, h2]⟩
    rw [h2, h3]
    have hs : (Instr.keyThatStays (kvV k) (kvV k)).run P w = .ok (kvV k) w := by
      unfold Instr.keyThatStays
      rw [if_pos (sameBits_an k), Sem.run_pure]
    simp [Instr.mapEntry, run_underlying hT.map, e0, e1, e2, hg, hs, hm, e3, goInt]
theorem run_entryStore {q : Nat} (hq : q < M.length) (v : Value) (h1 : w.heap[g]? = some (.map (entL (kvs M) 0).toArray (kvs M).length)) :
    ∃ w', (Instr.entryStore T (.map (some g)) (.int .i64 ((q : Nat) : Int)) v).run P w = .ok () w' ∧ Chg (fun b => b = g) w w' ∧ w'.heap[g]? = some (.map (entL ((kvs M).set q ((nth M q).1, v)) 0).toArray (kvs M).length) := by
  have hlt : g < w.heap.size := (Array.getElem?_eq_some_iff.1 h1).1
  have e0 : (getObj g).run P w = .ok (.map (entL (kvs M) 0).toArray (kvs M).length) w := by simp [getObj, Sem.run, h1]
  have e4 := findIdx_born (kvs M) 0 q (by rw [kvs_len]; exact hq)
  rw [Nat.zero_add] at e4
  have e5 := entL_modify v (kvs M) 0 q _ (kvs_get hq)
  refine ⟨World.setMap w g (entL ((kvs M).set q ((nth M q).1, v)) 0).toArray (kvs M).length, ?_, ⟨rfl, rfl, rfl, by simp [World.setMap], fun b hb hne => by
    show (w.heap.setIfInBounds g _)[b]? = _
    rw [Array.getElem?_setIfInBounds_ne (fun e => hne e.symm)]⟩, by
    show (w.heap.setIfInBounds g _)[g]? = _
    rw [Array.getElem?_setIfInBounds_self_of_lt hlt]⟩
  have e3 : ∀ es c, (setObj g (.map es c)).run P w = .ok () (World.setMap w g es c) := fun es c => by simp [setObj, Sem.run, h1, World.setMap]
  unfold Instr.entryStore
  simp only [Sem.run_bind, e0, Result.andThen_ok, asInt, asIntOf, Sem.run_pure]
  rw [List.findIdx?_toArray, e4]
  simp only [List.modify_toArray, e5, e3]
end
section
variable {P : Program} {o : Oper} {N : Nat} {K : Nat → Prop} {W w : World} {a : Act} {F : List (Nat × Value)} {L : List Asn} {α : Type} [Enc α] {E : TypeId} {g : Nat} {M : List (List Nat × Ls α)} {T kT eT eK : TypeId} {n : Nat} {k : List Nat}
theorem Sh.seenMap (h : Sh K W w L) (i : Nat) (hi : L[i]? = some (.big (seenX E g M))) : w.heap[g]? = some (.map (entL (kvs M) 0).toArray (kvs M).length) :=
  (h.ok _ (List.mem_of_getElem? hi)).1 _ (List.mem_cons_self ..)
theorem Sh.seenRow (h : Sh K W w L) (i : Nat) (hi : L[i]? = some (.big (seenX E g M))) (j : Nat) (hj : j < M.length) : (nth M j).2.At w :=
  own_at (E := E) ((h.ok _ (List.mem_of_getElem? hi)).1 _ (List.mem_cons_of_mem _ (List.mem_map.2 ⟨_, nth_mem _ _ hj, rfl⟩)))
theorem Sh.rowKAt (h : Sh K W w L) (i : Nat) (hi : L[i]? = some (.big (seenX E g M))) (k : List Nat) : (rowK k M).At w := by
  cases hf : findK k (kvs M) with
  | none => rw [(rowK_none hf).2.2]; exact ((Sh0.start w).nil (α := α) 0).own 0 rfl
  | some q => obtain ⟨_, _, h3, _, h5⟩ := rowK_some hf; rw [h5]; exact h.seenRow i hi q h3
/-- 'm[k]'. -/
theorem r_lookSeen {x y : Operand} {i : Nat} (hT : MapT P T kT eT eK n) (ho : o.op = .lookup T x y false) (hx : ev F x = some (.map (some g))) (hy : ev F y = some (kvV k)) (hi : L[i]? = some (.big (seenX E g M))) (hk : k.length = n) (hM : ∀ x ∈ M, x.1.length = n) : Rn P o N K W F L (rowK k M).v := fun a w h => by
  have h1 := h.sh.seenMap i hi
  have e0 : (getObj g).run P w = .ok (.map (entL (kvs M) 0).toArray (kvs M).length) w := by simp [getObj, Sem.run, h1]
  have e1 := run_findKey hT hk w (kvs M) 0 (kvs_mem hM)
  have e2 := fun b => run_checkKeyAn hT hk b w
  have key : (Instr.lookup T (.map (some g)) (kvV k) false).run P w = .ok (rowK k M).v w := by
    cases hf : findK k (kvs M) with
    | none =>
      rw [hf] at e1
      simp [Instr.lookup, run_underlying hT.map, e0, e1, e2, hT.zero, (rowK_none hf).2.2]
    | some q =>
      obtain ⟨_, _, h3, _, h5⟩ := rowK_some hf
      rw [hf] at e1
      simp only [Option.bind_some, kvs_get h3, Option.map_some] at e1
      simp [Instr.lookup, run_underlying hT.map, e0, e1, e2, h5]
  unfold execOp
  simp only [ho, h.fr.ev hx, h.fr.ev hy, Sem.run_bind, key, Result.andThen_ok, Sem.run_pure]
/-- 'm[k]', to be put back. -/
theorem x_mapEntry {d i : Nat} {x y : Operand} (h : St N K W a w F L) (hT : MapT P T kT eT eK n) (ho : o.op = .mapEntry T x y) (hx : ev F x = some (.map (some g))) (hy : ev F y = some (kvV k)) (hi : L[i]? = some (.big (seenX E g M))) (hk : k.length = n) (hM : ∀ x ∈ M, x.1.length = n) (hd : o.dst = some d) (hdN : Nat.blt d N = true) :
    Ex P o a w (fun a' w' => St N K W a' w' ((d, .tuple #[(nth (ensK k M) (idxK k M)).2.v, .int .i64 ((idxK k M : Nat) : Int)]) :: F) (L.set i (.big (seenX E g (ensK k M))))) := by
  obtain ⟨w', hrun, hch, hg⟩ := run_mapEntry (P := P) hT hk hM (h.sh.seenMap i hi)
  refine Ex.of_run (v := .tuple #[(nth (ensK k M) (idxK k M)).2.v, .int .i64 ((idxK k M : Nat) : Int)]) (w' := w') ?_ ?_
  · unfold execOp
    simp only [ho, h.fr.ev hx, h.fr.ev hy, Sem.run_bind, hrun, Result.andThen_ok, Sem.run_pure]
  · rw [hd]
    refine ⟨h.fr.put d (by simpa [Nat.blt_eq] using hdN) _, ?_⟩
    have h1 : Sh K W w (.mapB g (kvs M) :: ((M.map fun x => .own E x.2) ++ L.eraseIdx i)) := (h.sh.front hi).open_
    have h2 : Sh K W w' (.mapB g (kvs (ensK k M)) :: ((M.map fun x => .own E x.2) ++ L.eraseIdx i)) :=
      h1.put (i := 0) (A' := .mapB g (kvs (ensK k M))) rfl hch hg (fun b hb => .inl hb) (fun b hb => hb.elim) (fun b _ hb => hb)
    cases hf : findK k (kvs M) with
    | none =>
      have e := (rowK_none hf).1
      have h3 := (h2.nil (α := α) E)
      refine Sh.unfront (Sh.close (h3.perm ?_)) hi
      rw [e]
      unfold seenX
      rw [List.map_append, List.map_singleton]
      refine (List.Perm.swap _ _ _).trans (List.Perm.cons _ ?_)
      show List.Perm _ (((M.map fun x => Asn.own E x.2) ++ [Asn.own E ⟨.slice none 0 0, []⟩]) ++ L.eraseIdx i)
      rw [List.append_assoc]
      exact List.perm_middle.symm
    | some q =>
      have e := (rowK_some hf).1
      refine Sh.unfront (Sh.close ?_) hi
      rw [e] at h2 ⊢
      exact h2
/-- .. and put back. -/
theorem x_entryStore {x y z : Operand} {i q : Nat} {s : Ls α} (h : St N K W a w F (.own E s :: L)) (ho : o.op = .entryStore T x y z) (hd : o.dst = none) (hx : ev F x = some (.map (some g))) (hy : ev F y = some (.int .i64 ((q : Nat) : Int))) (hz : ev F z = some s.v) (hi : L[i]? = some (.big (seenH E g M q))) (hq : q < M.length) :
    Ex P o a w (fun a' w' => St N K W a' w' F (L.set i (.big (seenX E g (M.set q ((nth M q).1, s)))))) := by
  have h0 : Sh K W w (.big (seenH E g M q) :: (.own E s :: L.eraseIdx i)) := (h.sh.front (i := i + 1) (by rw [List.getElem?_cons_succ]; exact hi)).perm (by simp)
  have h1 : Sh K W w (.mapB g (kvs M) :: (((M.eraseIdx q).map fun x => .own E x.2) ++ (.own E s :: L.eraseIdx i))) := h0.open_
  obtain ⟨w', hrun, hch, hg⟩ := run_entryStore (P := P) (T := T) hq s.v (h1.ok _ (List.mem_cons_self ..))
  have ek : (kvs M).set q ((nth M q).1, s.v) = kvs (M.set q ((nth M q).1, s)) := by simp [kvs, List.map_set]
  have el : (kvs M).length = (kvs (M.set q ((nth M q).1, s))).length := by simp [kvs]
  rw [ek, el] at hg
  refine Ex.of_skip (w' := w') ?_ ?_
  · unfold execOp
    simp only [ho, h.fr.ev hx, h.fr.ev hy, h.fr.ev hz, Sem.run_bind, hrun, Result.andThen_ok, Sem.run_pure]
  · rw [hd]
    refine ⟨h.fr, ?_⟩
    have h2 : Sh K W w' (.mapB g (kvs (M.set q ((nth M q).1, s))) :: (((M.eraseIdx q).map fun x => .own E x.2) ++ (.own E s :: L.eraseIdx i))) :=
      h1.put (i := 0) (A' := .mapB g (kvs (M.set q ((nth M q).1, s)))) rfl hch hg (fun b hb => .inl hb) (fun b hb => hb.elim) (fun b _ hb => hb)
    refine Sh.unfront (Sh.close (h2.perm (List.Perm.cons _ ?_))) hi
    refine List.perm_middle.trans ?_
    have := ((perm_set ((nth M q).1, s) M q hq).map fun x : List Nat × Ls α => Asn.own E x.2).symm
    exact this.append_right _
/-- append to a row of a map. -/
theorem x_appSeen {d : Nat} {T e : TypeId} {gg : Bool} {sz by_ r rm i : Nat} {z : List Value} {x y : Operand} {m : Ls α} {B : Asn} (h : St N K W a w F L) (hT : slI P T = some e) (he : tyI P e = some (gg, sz, by_, z)) (ho : o.op = .call ⟨.builtin .append, #[x, y], #[T, T]⟩)
    (hx : ev F x = some (nth M i).2.v) (hy : ev F y = some m.v) (hr : L[r]? = some (.big (seenX E g M))) (hi : i < M.length) (hE : E = e) (hrm : L[rm]? = some B) (hne : Nat.beq r rm = false) (hat : ∀ w, Sh K W w L → m.At w) (hon : ∀ b, m.on b → B.fp b ∨ B.rd b) (hoi : ∀ q, q < m.l.length → ∀ b, Enc.on (nth m.l q) b → B.rd b)
    (hsz : Enc.sz α = sz) (hpos : Nat.blt 0 sz = true) (hzl : z.length = sz) (h1 : One α) (hn : ((nth M i).2.l.length + m.l.length) * by_ ≤ 140737488355328 ∧ (nth M i).2.l.length + m.l.length ≤ 140737488355328) (hd : o.dst = some d) (hdN : Nat.blt d N = true) :
    Ex P o a w (fun a' w' => ∃ u : Value, St N K W a' w' ((d, u) :: F) (.own E ⟨u, (nth M i).2.l ++ m.l⟩ :: L.set r (.big (seenH E g M i)))) := by
  have hB := mem_erase hrm hne
  have hp : (seenX E g M ++ L.eraseIdx r).Perm (.own E (nth M i).2 :: (seenH E g M i ++ L.eraseIdx r)) := by
    unfold seenX seenH
    rw [nth_lt _ _ hi]
    refine List.Perm.trans ((List.Perm.append_right _ ((perm_erase M i hi).map fun x : List Nat × Ls α => Asn.own E x.2)).cons _) ?_
    exact List.Perm.swap _ _ _
  have h1' : Sh K W w (.own E (nth M i).2 :: (seenH E g M i ++ L.eraseIdx r)) := (h.sh.front hr).open_.perm hp
  have back : ∀ w, Sh K W w (.own E (nth M i).2 :: (seenH E g M i ++ L.eraseIdx r)) → Sh K W w L := fun w h9 => by
    have h8 := ((h9.perm hp.symm).close).unfront hr
    obtain ⟨hl, he⟩ := List.getElem?_eq_some_iff.1 hr
    rw [← he, List.set_getElem_self] at h8
    exact h8
  obtain ⟨rm2, hrm2⟩ := List.getElem?_of_mem hB
  have hidx : (Asn.own E (nth M i).2 :: (seenH E g M i ++ L.eraseIdx r))[(seenH E g M i).length + rm2 + 1]? = some B := by
    rw [List.getElem?_cons_succ, List.getElem?_append_right (by omega)]
    simpa using hrm2
  refine (x_app (r := 0) (s := (nth M i).2) ⟨h.fr, h1'⟩ hT he ho hx hy rfl hE hidx rfl (fun w h9 => hat w (back w h9)) hon hoi hsz hpos hzl h1 hn hd hdN).mono fun a' w' ⟨u, h2⟩ => ⟨u, h2.fr, ?_⟩
  have h3 : Sh K W w' (.own E ⟨u, (nth M i).2.l ++ m.l⟩ :: (seenH E g M i ++ L.eraseIdx r)) := h2.sh
  have h4 : Sh K W w' (seenH E g M i ++ (.own E ⟨u, (nth M i).2.l ++ m.l⟩ :: L.eraseIdx r)) := h3.perm List.perm_middle.symm
  have h6 : Sh K W w' (.big (seenH E g M i) :: (.own E ⟨u, (nth M i).2.l ++ m.l⟩ :: L.eraseIdx r)) := h4.close
  refine h6.perm ?_
  refine (List.Perm.swap _ _ _).trans (List.Perm.cons _ ?_)
  exact (perm_set _ L r (List.getElem?_eq_some_iff.1 hr).1).symm
/-- A map is made. -/
theorem x_makeMapB {d : Nat} (h : St N K W a w F L) (hu : P.underlying T = some (.map kT eT)) (ho : o.op = .makeMap T none) (hd : o.dst = some d) (hdN : Nat.blt d N = true) (E : TypeId) (α : Type) [Enc α] :
    Ex P o a w (fun a' w' => ∃ g : Nat, St N K W a' w' ((d, .map (some g)) :: F) (.big (seenX E g ([] : List (List Nat × Ls α))) :: L)) := by
  have hrun : (Instr.makeMap T none).run P w = .ok (.map (some w.heap.size)) (w.alloc (.map #[] 0)) := by
    exact run_makeMap T w
  refine Ex.of_run (v := .map (some w.heap.size)) (w' := w.alloc (.map #[] 0)) ?_ ⟨w.heap.size, ?_⟩
  · unfold execOp
    simp only [ho, Option.map_none, Sem.run_bind, hrun, Result.andThen_ok, Sem.run_pure]
  · rw [hd]
    have h1 : Sh K W (w.alloc (.map #[] 0)) (.mapB w.heap.size (kvs ([] : List (List Nat × Ls α))) :: L) :=
      h.sh.push (Chg.alloc _ w _) (Go.heap_alloc_new w _) (fun b hb => by rw [show b = w.heap.size from hb]; exact Nat.le_refl _) (fun b hb => hb.elim) (fun b _ hb => hb)
    exact ⟨h.fr.put d (by simpa [Nat.blt_eq] using hdN) _, Sh.close (B := seenX E w.heap.size ([] : List (List Nat × Ls α))) h1⟩
end
end Go.Proofs.Ytanhbpofhebbaaa
