/-
  Rows of maps as resources; the maps' clone. It imports nothing of the dump.
-/
import Derived.Test.YtfpaahkleienoaaS20
import Derived.Laws.Externs
namespace Go.Proofs.Ytfpaahkleienoaa
open Go.RowKit
set_option linter.unusedSimpArgs false
set_option linter.unusedVariables false

structure MP where
  p : Option Nat
  l : List (Int × Int)
instance : Inhabited MP := ⟨⟨none, []⟩⟩
def MP.asn (x : MP) : Asn := .mapO x.p x.l
def pvs (M : List MP) : List RV := M.map fun x => ⟨.map x.p⟩
def mapsX (E : TypeId) (v : Value) (M : List MP) : List Asn := .own E (⟨v, pvs M⟩ : Ls RV) :: M.map MP.asn
def mapsH (E : TypeId) (v : Value) (M : List MP) (i : Nat) : List Asn := .own E (⟨v, pvs M⟩ : Ls RV) :: (M.eraseIdx i).map MP.asn
theorem pvs_len (M : List MP) : (pvs M).length = M.length := List.length_map _
theorem nth_pvs {M : List MP} {i : Nat} (h : i < M.length) : (nth (pvs M) i).v = .map (nth M i).p := by
  rw [nth_lt _ _ h, nth_lt _ _ (show i < (pvs M).length by rw [pvs_len]; exact h)]
  simp [pvs]
theorem pvs_set (M : List MP) (i : Nat) (x : MP) : (pvs M).set i ⟨.map x.p⟩ = pvs (M.set i x) := by simp [pvs, List.map_set]
theorem pvs_set_same (M : List MP) (i : Nat) (l : List (Int × Int)) (hi : i < M.length) : pvs (M.set i ⟨(nth M i).p, l⟩) = pvs M := by
  rw [← pvs_set]
  apply List.ext_getElem?
  intro k
  rw [List.getElem?_set]
  split
  · rename_i h
    subst h
    rw [if_pos (by rw [pvs_len]; exact hi), List.getElem?_eq_getElem (by rw [pvs_len]; exact hi)]
    simp [pvs, nth_lt _ _ hi]
  · rfl
section
variable {P : Program} {o : Oper} {N : Nat} {K : Nat → Prop} {W w : World} {a : Act} {F : List (Nat × Value)} {L : List Asn} {T kT eT E : TypeId} {v : Value} {M : List MP} {l : List (Int × Int)} {p : Option Nat} {g : Nat}
theorem Sh.mapsAt (h : Sh K W w L) (i : Nat) (hi : L[i]? = some (.big (mapsX E v M))) : (⟨v, pvs M⟩ : Ls RV).At w :=
  own_at (E := E) ((h.ok _ (List.mem_of_getElem? hi)).1 _ (List.mem_cons_self ..))
theorem Sh.mapsHAt {j : Nat} (h : Sh K W w L) (i : Nat) (hi : L[i]? = some (.big (mapsH E v M j))) : (⟨v, pvs M⟩ : Ls RV).At w :=
  own_at (E := E) ((h.ok _ (List.mem_of_getElem? hi)).1 _ (List.mem_cons_self ..))
theorem Sh.noMap (h : Sh K W w L) : Sh K W w (.mapO none [] :: L) :=
  h.push (Chg.refl _ _) rfl (fun b hb => by cases hb) (fun b hb => hb.elim) (fun b _ hb => hb)
theorem Sh.noMaps (n : Nat) (h : Sh K W w L) : Sh K W w (List.replicate n (.mapO none []) ++ L) := by
  induction n with
  | zero => exact h
  | succ n ih => rw [List.replicate_succ]; exact ih.noMap
theorem Sh.mapsMk {n : Nat} (h : Sh K W w (.own E (⟨v, List.replicate n ⟨.map none⟩⟩ : Ls RV) :: L)) : Sh K W w (.big (mapsX E v (List.replicate n ⟨none, []⟩)) :: L) := by
  refine Sh.close ?_
  have h2 := Sh.noMaps n h
  have e : pvs (List.replicate n (⟨none, []⟩ : MP)) = List.replicate n ⟨.map none⟩ := by simp [pvs]
  unfold mapsX
  rw [e, List.map_replicate]
  exact h2.perm List.perm_middle
/-- A row of maps is made. -/
theorem x_makeMaps {d : Nat} {T e : TypeId} {gg : Bool} {by_ n : Nat} {x y : Operand} (h : St N K W a w F L) (hT : slI P T = some e) (he : tyI P e = some (gg, 1, by_, [.map none])) (ho : o.op = .makeSlice T x y) (hx : ev F x = some (.int .i64 (n : Int))) (hy : ev F y = some (.int .i64 (n : Int)))
    (hn : by_ * n ≤ 140737488355328 ∧ n ≤ 140737488355328) (hd : o.dst = some d) (hdN : Nat.blt d N = true) :
    Ex P o a w (fun a' w' => ∃ v : Value, St N K W a' w' ((d, v) :: F) (.big (mapsX e v (List.replicate n ⟨none, []⟩)) :: L)) :=
  (x_make (⟨.map none⟩ : RV) h hT he ho hx hy rfl rfl hn (fun _ => trivial) (fun _ h => h) hd hdN).mono fun a' w' ⟨v, h⟩ => ⟨v, h.fr, h.sh.mapsMk⟩
/-- A map is put into its place. -/
theorem x_stMaps {T : TypeId} {gg : Bool} {by_ i : Nat} {z : List Value} {x y : Operand} (h : St N K W a w F (.big (mapsX E v M) :: .mapO p l :: L)) (hT : tyI P T = some (gg, 1, by_, z)) (ho : o.op = .store T x y) (hd : o.dst = none)
    (hx : ev F x = some (.pointer (some (padr v 1 i 0)))) (hy : ev F y = some (.map p)) (hi : i < M.length) :
    Ex P o a w (fun a' w' => St N K W a' w' F (.big (mapsX E v (M.set i ⟨p, l⟩)) :: L)) := by
  have h1 : St N K W a w F (.own E (⟨v, pvs M⟩ : Ls RV) :: (M.map MP.asn ++ (.mapO p l :: L))) := ⟨h.fr, h.sh.open_⟩
  refine (x_ste (s := (⟨v, pvs M⟩ : Ls RV)) (r := 0) (i := i) (j := 0) (x' := ⟨.map p⟩) h1 hT ho hd hx rfl rfl (by rw [pvs_len]; exact hi) (by decide) hy rfl rfl (fun q hq => ?_) (fun _ _ => trivial) (fun b hb => hb.elim)).mono fun a' w' h2 => ⟨h2.fr, ?_⟩
  · obtain rfl : q = 0 := by omega
    rfl
  · have h3 : Sh K W w' (.own E (⟨v, pvs (M.set i ⟨p, l⟩)⟩ : Ls RV) :: (M.map MP.asn ++ (.mapO p l :: L))) := by
      rw [← pvs_set]; exact h2.sh
    have h4 : Sh K W w' (MP.asn M[i] :: (.own E (⟨v, pvs (M.set i ⟨p, l⟩)⟩ : Ls RV) :: ((M.eraseIdx i).map MP.asn ++ (.mapO p l :: L)))) := h3.perm (by
      refine List.Perm.trans ((List.Perm.append_right _ ((perm_erase M i hi).map MP.asn)).cons _) ?_
      exact List.Perm.swap _ _ _)
    refine Sh.close (h4.tail.perm ?_)
    refine List.Perm.cons _ ?_
    refine List.perm_middle.trans ?_
    have := ((perm_set (⟨p, l⟩ : MP) M i hi).map MP.asn).symm
    exact this.append_right L
/-- One map is taken out of its row .. -/
theorem St.openM (r i : Nat) {q : Option Nat} (h : St N K W a w F L) (hr : L[r]? = some (.big (mapsX E v M))) (hi : i < M.length) (hq : (nth M i).p = q) : St N K W a w F (.mapO q (nth M i).l :: L.set r (.big (mapsH E v M i))) := by
  subst hq
  refine ⟨h.fr, ?_⟩
  have h0 : Sh K W w (.own E (⟨v, pvs M⟩ : Ls RV) :: (M.map MP.asn ++ L.eraseIdx r)) := (h.sh.front hr).open_
  have h1 : Sh K W w (.own E (⟨v, pvs M⟩ : Ls RV) :: ((M.eraseIdx i).map MP.asn ++ (.mapO (nth M i).p (nth M i).l :: L.eraseIdx r))) := h0.perm (by
    refine List.Perm.cons _ ?_
    refine List.Perm.trans (List.Perm.append_right _ ((perm_erase M i hi).map MP.asn)) ?_
    rw [nth_lt _ _ hi]
    exact List.perm_middle.symm)
  have h2 : Sh K W w (.big (mapsH E v M i) :: .mapO (nth M i).p (nth M i).l :: L.eraseIdx r) := Sh.close h1
  have h3 : Sh K W w (.mapO (nth M i).p (nth M i).l :: .big (mapsH E v M i) :: L.eraseIdx r) := h2.perm (List.Perm.swap _ _ _)
  exact h3.perm (List.Perm.cons _ (perm_set _ L r (List.getElem?_eq_some_iff.1 hr).1).symm)
/-- .. and put back. -/
theorem St.closeM (r i : Nat) {q : Option Nat} (h : St N K W a w F (.mapO q l :: L)) (hr : L[r]? = some (.big (mapsH E v M i))) (hi : i < M.length) (hq : (nth M i).p = q) : St N K W a w F (L.set r (.big (mapsX E v (M.set i ⟨(nth M i).p, l⟩)))) := by
  subst hq
  refine ⟨h.fr, ?_⟩
  have h0 : Sh K W w (.big (mapsH E v M i) :: .mapO (nth M i).p l :: L.eraseIdx r) := (h.sh.perm (List.Perm.cons _ (by
    have := perm_erase L r (List.getElem?_eq_some_iff.1 hr).1
    rwa [(List.getElem?_eq_some_iff.1 hr).2] at this))).perm (List.Perm.swap _ _ _)
  have h1 : Sh K W w (.own E (⟨v, pvs M⟩ : Ls RV) :: ((M.eraseIdx i).map MP.asn ++ (.mapO (nth M i).p l :: L.eraseIdx r))) := h0.open_
  rw [← pvs_set_same M i l hi] at h1
  refine Sh.unfront (Sh.close (h1.perm (List.Perm.cons _ ?_))) hr
  refine List.perm_middle.trans ?_
  have := ((perm_set (⟨(nth M i).p, l⟩ : MP) M i hi).map MP.asn).symm
  exact this.append_right _
theorem nth_set_p (M : List MP) (i : Nat) : M.set i ⟨(nth M i).p, (nth M i).l⟩ = M := by
  rcases Nat.lt_or_ge i M.length with h | h
  · rw [nth_lt _ _ h]; exact List.set_getElem_self h
  · rw [List.set_eq_of_length_le h]
end
end Go.Proofs.Ytfpaahkleienoaa
