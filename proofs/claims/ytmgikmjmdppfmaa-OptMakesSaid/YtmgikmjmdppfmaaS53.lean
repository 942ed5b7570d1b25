/-
  Rows of values that always are one. It imports nothing of the dump.
-/
import Derived.Test.YtmgikmjmdppfmaaS51
import Derived.Test.YtmgikmjmdppfmaaE1
import Derived.Test.YtmgikmjmdppfmaaS7
section
namespace Go.Proofs.Ytmgikmjmdppfmaa
open Go.RowKit
set_option linter.unusedSimpArgs false
set_option linter.unusedVariables false

def encV (x : VV) : Value := .agg #[.int .i64 x.s, .int .i64 x.n]
/-- A map that stands in a map. -/
structure MA where
  g : Nat
  c : List (KA VV)
  t : Nat
def encM (x : MA) : Value := .map (some x.g)
def MA.asn (x : MA) : Asn := .mapA encV (some x.g) x.c x.t
def ahX (p : Option Nat) (C : List (KA MA)) (T : Nat) : List Asn := .mapA encM p C T :: C.map fun x => x.v.asn
def wasP (x : Option MA) : Option Nat := x.map MA.g
def wasC : Option MA → List (KA VV)
  | none => []
  | some m => m.c
def wasT : Option MA → Nat
  | none => 0
  | some m => m.t
theorem ah_val (x : Option MA) : (x.map encM).getD (.map none) = .map (wasP x) := by cases x <;> rfl
theorem ah_ok {p : Option Nat} {C : List (KA MA)} {T : Nat} {w : World} (h : (Asn.big (ahX p C T)).ok w) (k : Int) : (Asn.mapA encV (wasP (getK k C)) (wasC (getK k C)) (wasT (getK k C))).ok w := by
  cases hk : getK k C with
  | none => rfl
  | some m =>
    obtain ⟨x, hx, _, rfl⟩ := getK_some hk
    exact h.1 _ (List.mem_cons_of_mem _ (List.mem_map.2 ⟨x, hx, rfl⟩))
theorem ah_oko {p : Option Nat} {C : List (KA MA)} {T : Nat} {w : World} (h : (Asn.big (ahX p C T)).ok w) : (Asn.mapA encM p C T).ok w := h.1 _ (List.mem_cons_self ..)
instance {enc : VV → Value} {p : Option Nat} {c : List (KA VV)} {t : Nat} : NoRd (.mapA enc p c t) := ⟨fun _ h => h⟩
instance {p : Option Nat} {r t : Nat} {s : List Nat} : NoRd (.itA p r t s) := ⟨fun _ h => h⟩
instance {p : Option Nat} {C : List (KA MA)} {T : Nat} : NoRd (.big (ahX p C T)) := ⟨fun b h => by
  obtain ⟨A, hA, hb⟩ := h
  rcases List.mem_cons.1 hA with rfl | hA
  · exact hb
  · obtain ⟨x, _, rfl⟩ := List.mem_map.1 hA
    exact hb⟩
theorem put_perm {f : KA MA → Asn} (hf : ∀ x y : KA MA, x.v = y.v → f x = f y) {k : Int} {m : MA} {t : Nat} : ∀ C : List (KA MA), ∃ l, (f ⟨k, m, t⟩ :: C.map f).Perm (l ++ (putKv k m t C).map f)
  | [] => ⟨[], List.Perm.refl _⟩
  | x :: r => by
    rw [putKv]
    by_cases h : k = x.k
    · rw [if_pos h]
      refine ⟨[f x], ?_⟩
      rw [List.map_cons, List.map_cons, hf { x with v := m } ⟨k, m, t⟩ rfl]
      exact List.Perm.swap _ _ _
    · rw [if_neg h]
      obtain ⟨l, hl⟩ := put_perm hf r
      refine ⟨l, ?_⟩
      rw [List.map_cons, List.map_cons]
      exact ((List.Perm.swap _ _ _).trans (hl.cons _)).trans List.perm_middle.symm
section
variable {P : Program} {o : Oper} {N : Nat} {K : Nat → Prop} {W w : World} {a : Act} {F : List (Nat × Value)} {L : List Asn} {T kT eT : TypeId} {p : Option Nat} {C : List (KA MA)} {t tC : Nat} {k : Int} {g : Nat} {c : List (KA VV)}
/-- What is there, or what is not. -/
def gvD (k : Int) (c : List (KA VV)) : VV := (getK k c).getD ⟨0, 0⟩
theorem gv_val (x : Option VV) : (x.map encV).getD (.agg #[.int .i64 0, .int .i64 0]) = encV (x.getD ⟨0, 0⟩) := by cases x <;> rfl
theorem r_lookA0v {x y : Operand} (hT : MapTA P T kT eT (.agg #[.int .i64 0, .int .i64 0])) (ho : o.op = .lookup T x y false) (hx : ev F x = some (.map p)) (hy : ev F y = some (.int .i64 k)) (hm : ∀ w, Sh K W w L → (Asn.mapA encV p c t).ok w) : Rn P o N K W F L (.agg #[.int .i64 (gvD k c).s, .int .i64 (gvD k c).n]) := by
  have := r_lookA0 (N := N) hT ho hx hy hm
  rw [gv_val] at this
  exact this
theorem r_lookAv {x y : Operand} (hT : MapTA P T kT eT (.agg #[.int .i64 0, .int .i64 0])) (ho : o.op = .lookup T x y true) (hx : ev F x = some (.map p)) (hy : ev F y = some (.int .i64 k)) (hm : ∀ w, Sh K W w L → (Asn.mapA encV p c t).ok w) : Rn P o N K W F L (.tuple #[.agg #[.int .i64 ((getK k c).getD ⟨0, 0⟩).s, .int .i64 ((getK k c).getD ⟨0, 0⟩).n], .bool (getK k c).isSome]) := by
  have := r_lookA (N := N) hT ho hx hy hm
  rw [gv_val] at this
  exact this
theorem Sh.dropL : ∀ {l : List Asn}, Sh K W w (l ++ L) → Sh K W w L
  | [], h => h
  | _ :: l, h => Sh.dropL (l := l) h.tail
theorem x_makeAh {d : Nat} (h : St N K W a w F L) (ho : o.op = .makeMap T none) (hd : o.dst = some d) (hdN : Nat.blt d N = true) : Ex P o a w (fun a' w' => ∃ g : Nat, St N K W a' w' ((d, .map (some g)) :: F) (.big (ahX (some g) [] 0) :: L)) :=
  (x_makeA encM h ho hd hdN).mono fun a' w' ⟨g, h⟩ => ⟨g, h.fr, Sh.close (B := ahX (some g) [] 0) h.sh⟩
/-- 'v, ok := m[k]', v a map. -/
theorem r_lookAh {x y : Operand} {i : Nat} (hT : MapTA P T kT eT (.map none)) (ho : o.op = .lookup T x y true) (hx : ev F x = some (.map p)) (hy : ev F y = some (.int .i64 k)) (hi : L[i]? = some (.big (ahX p C tC))) : Rn P o N K W F L (.tuple #[.map (wasP (getK k C)), .bool (getK k C).isSome]) := by
  have := r_lookA (N := N) (enc := encM) (K := K) (W := W) (L := L) hT ho hx hy (c := C) (t := tC) fun w h => ah_oko (h.ok _ (List.mem_of_getElem? hi))
  rw [ah_val] at this
  exact this
theorem r_lookAhR {x y : Operand} {i : Nat} (hT : MapTA P T kT eT (.map none)) (ho : o.op = .lookup T x y true) (hx : ev F x = some (.map p)) (hy : ev F y = some (.int .i64 k)) (hi : L[i]? = some (.ro [.big (ahX p C tC)])) : Rn P o N K W F L (.tuple #[.map (wasP (getK k C)), .bool (getK k C).isSome]) := by
  have := r_lookA (N := N) (enc := encM) (K := K) (W := W) (L := L) hT ho hx hy (c := C) (t := tC) fun w h => ah_oko (h.ok _ (List.mem_of_getElem? hi) _ (List.mem_cons_self ..))
  rw [ah_val] at this
  exact this
/-- 'm[k]', a map. -/
theorem r_lookAh0 {x y : Operand} {i : Nat} (hT : MapTA P T kT eT (.map none)) (ho : o.op = .lookup T x y false) (hx : ev F x = some (.map p)) (hy : ev F y = some (.int .i64 k)) (hi : L[i]? = some (.big (ahX p C tC))) : Rn P o N K W F L (.map (wasP (getK k C))) := by
  have := r_lookA0 (N := N) (enc := encM) (K := K) (W := W) (L := L) hT ho hx hy (c := C) (t := tC) fun w h => ah_oko (h.ok _ (List.mem_of_getElem? hi))
  rw [ah_val] at this
  exact this
/-- A map is put into the map. -/
theorem x_putAh {x y u : Operand} (h : St N K W a w F (.big (ahX (some g) C tC) :: .mapA encV p c t :: L)) (hT : MapTA P T kT eT (.map none)) (ho : o.op = .mapUpdate T x y u) (hd : o.dst = none) (hx : ev F x = some (.map (some g))) (hy : ev F y = some (.int .i64 k)) (hz : ev F u = some (.map p)) {gn : Nat} (hp : p = some gn) :
    Ex P o a w (fun a' w' => St N K W a' w' F (.big (ahX (some g) (putKv k ⟨gn, c, t⟩ tC C) (putT k tC C)) :: L)) := by
  subst hp
  have h1 : St N K W a w F (.mapA encM (some g) C tC :: (C.map (fun x => x.v.asn) ++ (MA.asn ⟨gn, c, t⟩ :: L))) := ⟨h.fr, h.sh.open_⟩
  refine (x_updA (enc := encM) (v := ⟨gn, c, t⟩) (i := 0) h1 hT ho hd hx hy hz rfl rfl).mono fun a' w' h2 => ⟨h2.fr, ?_⟩
  obtain ⟨l, hl⟩ := put_perm (f := fun x => x.v.asn) (fun x y e => by show x.v.asn = y.v.asn; rw [e]) (k := k) (m := ⟨gn, c, t⟩) (t := tC) C
  refine Sh.close (Sh.dropL (l := l) (h2.sh.perm ?_))
  show (Asn.mapA encM (some g) _ _ :: (C.map (fun x => x.v.asn) ++ (MA.asn ⟨gn, c, t⟩ :: L))).Perm (l ++ ((.mapA encM (some g) _ _ :: (putKv k ⟨gn, c, t⟩ tC C).map fun x => x.v.asn) ++ L))
  refine List.Perm.trans ?_ (List.perm_middle.symm)
  refine List.Perm.cons _ ?_
  refine List.Perm.trans (List.perm_middle) ?_
  have h9 := hl.append_right L
  rw [List.append_assoc] at h9
  exact h9
end
end Go.Proofs.Ytmgikmjmdppfmaa
end
namespace Go.Proofs.Ytmgikmjmdppfmaa
open Go.RowKit
set_option linter.unusedSimpArgs false
set_option linter.unusedVariables false

def VV.cell (x : VV) : Nat → Value
  | 0 => .int .i64 x.s
  | _ => .int .i64 x.n
instance : Enc VV where
  sz := 2
  cell := VV.cell
  whole := encV
  agg := true
  inner _ _ := True
  on _ _ := False
  one h := by cases h
  many _ _ := rfl
  keep _ _ _ h _ := h
  lt _ _ _ _ h := h.elim
instance : Flat VV := ⟨fun _ _ h => h, fun _ _ => trivial⟩
end Go.Proofs.Ytmgikmjmdppfmaa
