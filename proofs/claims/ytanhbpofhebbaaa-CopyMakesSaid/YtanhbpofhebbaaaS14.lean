/-
  Matrices as resources: a row of rows, whose rows are the call's own; rows of arrays. It imports nothing of the dump.
-/
import Derived.Test.YtanhbpofhebbaaaS13
namespace Go.Proofs.Ytanhbpofhebbaaa
open Go.RowKit
set_option linter.unusedSimpArgs false
set_option linter.unusedVariables false

/-- A row's value, as it stands. -/
structure RV where
  v : Value
instance : Inhabited RV := ⟨⟨.slice none 0 0⟩⟩
instance : Enc RV where
  sz := 1
  cell x _ := x.v
  whole x := x.v
  agg := false
  inner _ _ := True
  on _ _ := False
  one _ := ⟨rfl, fun _ => rfl⟩
  many h := by cases h
  keep _ _ _ h _ := h
  lt _ _ _ _ h := h.elim
instance : Flat RV := ⟨fun _ _ h => h, fun _ _ => trivial⟩
/-- A row that none else reads, of which no more is known than that. -/
def Asn.hold {α : Type} [Enc α] (s : Ls α) : Asn where
  fp := s.on
  rd _ := False
  ok w := s.At w
  keep w w' h hb := h.keep fun b hb' => hb b (.inl hb')
  lt w h b hb := hb.elim (fun hb => h.lt hb) fun hb => hb.elim
section
variable {α : Type}
def rvs (M : List (Ls α)) : List RV := M.map fun s => ⟨s.v⟩
def matX (R : Ls α → Asn) (E : TypeId) (v : Value) (M : List (Ls α)) : List Asn := .own E (⟨v, rvs M⟩ : Ls RV) :: M.map R
theorem rvs_len (M : List (Ls α)) : (rvs M).length = M.length := List.length_map _
theorem nth_rvs (M : List (Ls α)) (i : Nat) : (nth (rvs M) i).v = (nth M i).v := by
  rcases Nat.lt_or_ge i M.length with h | h
  · rw [nth_lt _ _ h, nth_lt _ _ (show i < (rvs M).length by rw [rvs_len]; exact h)]
    simp [rvs]
  · have h1 : nth M i = default := by simp [nth, List.getD, h]
    have h2 : nth (rvs M) i = default := by simp [nth, List.getD, rvs_len, h]
    rw [h1, h2]; rfl
theorem rvs_set (M : List (Ls α)) (i : Nat) (s : Ls α) : (rvs M).set i ⟨s.v⟩ = rvs (M.set i s) := by simp [rvs, List.map_set]
theorem rvs_set_same (M : List (Ls α)) (i : Nat) (l : List α) (hi : i < M.length) : rvs (M.set i ⟨(nth M i).v, l⟩) = rvs M := by
  rw [← rvs_set]
  apply List.ext_getElem?
  intro k
  rw [List.getElem?_set]
  split
  · rename_i h
    subst h
    rw [if_pos (by rw [rvs_len]; exact hi), List.getElem?_eq_getElem (by rw [rvs_len]; exact hi)]
    simp [rvs, nth_lt _ _ hi]
  · rfl
end
section
variable {α : Type} [Enc α]
end
section
variable {K : Nat → Prop} {W w : World} {L : List Asn} {α : Type} {R : Ls α → Asn} {E : TypeId} {v : Value} {M : List (Ls α)}
theorem Sh.matAt (h : Sh K W w L) (i : Nat) (hi : L[i]? = some (.big (matX R E v M))) : (⟨v, rvs M⟩ : Ls RV).At w :=
  own_at (E := E) ((h.ok _ (List.mem_of_getElem? hi)).1 _ (List.mem_cons_self ..))
end
section
variable {P : Program} {o : Oper} {N : Nat} {K : Nat → Prop} {W w : World} {a : Act} {F : List (Nat × Value)} {L : List Asn} {α : Type} [Enc α] {R : Ls α → Asn} {E IE : TypeId} {v : Value} {M : List (Ls α)}
theorem Sh.matRow (h : Sh K W w L) (i : Nat) (hi : L[i]? = some (.big (matX (.own IE) E v M))) (j : Nat) (hj : j < M.length) : (nth M j).At w :=
  own_at (E := IE) ((h.ok _ (List.mem_of_getElem? hi)).1 _ (List.mem_cons_of_mem _ (List.mem_map.2 ⟨_, nth_mem _ _ hj, rfl⟩)))
theorem Sh.nils (n : Nat) (h : Sh K W w L) : Sh K W w (List.replicate n (.own IE (⟨.slice none 0 0, []⟩ : Ls α)) ++ L) := by
  induction n with
  | zero => exact h
  | succ n ih => rw [List.replicate_succ]; exact ih.nil IE
theorem Sh.tail {A : Asn} (h : Sh K W w (A :: L)) : Sh K W w L :=
  ⟨h.chg, fun B hB => h.ok B (List.mem_cons_of_mem _ hB), fun B hB => h.mine B (List.mem_cons_of_mem _ hB), fun B hB => h.self B (List.mem_cons_of_mem _ hB), (List.pairwise_cons.1 h.apart).2⟩
/-- Rows of rows are made. -/
theorem Sh.matMk {n : Nat} (h : Sh K W w (.own E (⟨v, List.replicate n ⟨.slice none 0 0⟩⟩ : Ls RV) :: L)) : Sh K W w (.big (matX (.own IE) E v (List.replicate n (⟨.slice none 0 0, []⟩ : Ls α))) :: L) := by
  refine Sh.close ?_
  have h2 := (h.nils (α := α) (IE := IE) n)
  have e : rvs (List.replicate n (⟨.slice none 0 0, []⟩ : Ls α)) = List.replicate n ⟨.slice none 0 0⟩ := by simp [rvs]
  unfold matX
  rw [e, List.map_replicate]
  exact h2.perm List.perm_middle
theorem x_makeMat {d : Nat} {T e : TypeId} {gg : Bool} {by_ n : Nat} {x y : Operand} (h : St N K W a w F L) (hT : slI P T = some e) (he : tyI P e = some (gg, 1, by_, [.slice none 0 0])) (ho : o.op = .makeSlice T x y) (hx : ev F x = some (.int .i64 (n : Int))) (hy : ev F y = some (.int .i64 (n : Int)))
    (hn : by_ * n ≤ 140737488355328 ∧ n ≤ 140737488355328) (hd : o.dst = some d) (hdN : Nat.blt d N = true) (IE : TypeId) (α : Type) [Enc α] :
    Ex P o a w (fun a' w' => ∃ v : Value, St N K W a' w' ((d, v) :: F) (.big (matX (.own IE) e v (List.replicate n (⟨.slice none 0 0, []⟩ : Ls α))) :: L)) :=
  (x_make (⟨.slice none 0 0⟩ : RV) h hT he ho hx hy rfl rfl hn (fun _ => trivial) (fun _ h => h) hd hdN).mono fun a' w' ⟨v, h⟩ => ⟨v, h.fr, h.sh.matMk⟩
/-- A row is put into its place. -/
theorem x_stMat {T : TypeId} {gg : Bool} {by_ i : Nat} {z : List Value} {x y : Operand} {s : Ls α} (h : St N K W a w F (.big (matX R E v M) :: R s :: L)) (hT : tyI P T = some (gg, 1, by_, z)) (ho : o.op = .store T x y) (hd : o.dst = none)
    (hx : ev F x = some (.pointer (some (padr v 1 i 0)))) (hy : ev F y = some s.v) (hi : i < M.length) (hat : s.At w) :
    Ex P o a w (fun a' w' => St N K W a' w' F (.big (matX R E v (M.set i s)) :: L)) := by
  have h1 : St N K W a w F (.own E (⟨v, rvs M⟩ : Ls RV) :: (M.map R ++ (R s :: L))) := ⟨h.fr, h.sh.open_⟩
  refine (x_ste (s := (⟨v, rvs M⟩ : Ls RV)) (r := 0) (i := i) (j := 0) (x' := ⟨s.v⟩) h1 hT ho hd hx rfl rfl (by rw [rvs_len]; exact hi) (by decide) hy (cells_oneL hat.one) hat.one (fun q hq => ?_) (fun _ _ => trivial) (fun b hb => hb.elim)).mono fun a' w' h2 => ⟨h2.fr, ?_⟩
  · obtain rfl : q = 0 := by omega
    rfl
  · have h3 : Sh K W w' (.own E (⟨v, rvs (M.set i s)⟩ : Ls RV) :: (M.map R ++ (R s :: L))) := by
      rw [← rvs_set]; exact h2.sh
    have h4 : Sh K W w' (R M[i] :: (.own E (⟨v, rvs (M.set i s)⟩ : Ls RV) :: ((M.eraseIdx i).map R ++ (R s :: L)))) := h3.perm (by
      refine List.Perm.trans ((List.Perm.append_right _ ((perm_erase M i hi).map R)).cons _) ?_
      exact List.Perm.swap _ _ _)
    refine Sh.close (h4.tail.perm ?_)
    refine List.Perm.cons _ ?_
    refine List.perm_middle.trans ?_
    have := ((perm_set s M i hi).map R).symm
    exact this.append_right L
/-- A store into a row of rows. -/
theorem x_stMatE [Flat α] {T : TypeId} {gg : Bool} {by_ i q : Nat} {z : List Value} {x y : Operand} {x' : α} {u : Value} (h : St N K W a w F (.big (matX (.own IE) E v M) :: L)) (hT : tyI P T = some (gg, 1, by_, z)) (ho : o.op = .store T x y) (hd : o.dst = none)
    (hx : ev F x = some (.pointer (some (padr (nth M i).v 1 q 0)))) (hsz : Enc.sz α = 1) (hi : i < M.length) (hq : q < (nth M i).l.length) (hy : ev F y = some u) (hv : u.cells.toList = [u]) (h1 : u.oneCell' = true) (hc : Enc.cell x' 0 = u) :
    Ex P o a w (fun a' w' => St N K W a' w' F (.big (matX (.own IE) E v (M.set i ⟨(nth M i).v, (nth M i).l.set q x'⟩)) :: L)) := by
  have h2 : St N K W a w F (.own IE (nth M i) :: (.own E (⟨v, rvs M⟩ : Ls RV) :: ((M.eraseIdx i).map (.own IE) ++ L))) := ⟨h.fr, h.sh.open_.perm (by
    rw [nth_lt _ _ hi]
    refine List.Perm.trans ((List.Perm.append_right _ ((perm_erase M i hi).map (Asn.own IE))).cons _) ?_
    exact List.Perm.swap _ _ _)⟩
  refine (x_ste (s := nth M i) (r := 0) (i := q) (j := 0) (x' := x') h2 hT ho hd hx hsz rfl hq (by decide) hy hv h1 (fun p hp => ?_) (fun _ _ => Flat.inner _ _) (fun b hb => (Flat.on _ _ hb).elim)).mono fun a' w' h3 => ⟨h3.fr, Sh.close (h3.sh.perm ?_)⟩
  · obtain rfl : p = 0 := by omega
    exact hc
  · unfold matX
    rw [rvs_set_same _ _ _ hi]
    show List.Perm (Asn.own IE (⟨(nth M i).v, (nth M i).l.set q x'⟩ : Ls α) :: Asn.own E _ :: _) _
    refine (List.Perm.swap _ _ _).trans (List.Perm.cons _ ?_)
    have := ((perm_set (⟨(nth M i).v, (nth M i).l.set q x'⟩ : Ls α) M i hi).map (Asn.own IE)).symm
    exact this.append_right L
end
-- ---------------------------------------------------------------- rows of arrays
section
variable {P : Program} {o : Oper} {N : Nat} {K : Nat → Prop} {W w : World} {a : Act} {F : List (Nat × Value)} {L : List Asn}
theorem ev_nat {x : Operand} {z : Int} (h0 : 0 ≤ z) (h : ev F x = some (.int .i64 z)) : ev F x = some (.int .i64 ((z.toNat : Nat) : Int)) := by rw [Int.toNat_of_nonneg h0]; exact h
end
-- ---------------------------------------------------------------- rows whose room is cut to their length
section
variable {P : Program} {o : Oper} {N : Nat} {K : Nat → Prop} {W w : World} {a : Act} {F : List (Nat × Value)} {L : List Asn} {α : Type} [Enc α]
end
end Go.Proofs.Ytanhbpofhebbaaa
