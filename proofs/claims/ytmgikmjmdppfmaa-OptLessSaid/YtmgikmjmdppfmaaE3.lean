/-
  What is ahead of each order, as maps tell it.
-/
import Derived.Test.YtmgikmjmdppfmaaS51
import Derived.Test.YtmgikmjmdppfmaaE1
import Derived.Test.YtmgikmjmdppfmaaS7
import Derived.Test.YtmgikmjmdppfmaaE2
section
namespace Go.Proofs.Ytmgikmjmdppfmaa
open Go.RowKit
set_option linter.unusedSimpArgs false
set_option linter.unusedVariables false

def encV (x : VV) : Value := .agg #[.int .i64 x.s, .int .i64 x.n]
/-- A map that stands in a map. -/
structure MA where
  g : Nat
  c : List (KA VV)
  t : Nat
def encM (x : MA) : Value := .map (some x.g)
def MA.asn (x : MA) : Asn := .mapA encV (some x.g) x.c x.t
def ahX (p : Option Nat) (C : List (KA MA)) (T : Nat) : List Asn := .mapA encM p C T :: C.map fun x => x.v.asn
def wasP (x : Option MA) : Option Nat := x.map MA.g
def wasC : Option MA → List (KA VV)
  | none => []
  | some m => m.c
def wasT : Option MA → Nat
  | none => 0
  | some m => m.t
theorem ah_val (x : Option MA) : (x.map encM).getD (.map none) = .map (wasP x) := by cases x <;> rfl
theorem ah_ok {p : Option Nat} {C : List (KA MA)} {T : Nat} {w : World} (h : (Asn.big (ahX p C T)).ok w) (k : Int) : (Asn.mapA encV (wasP (getK k C)) (wasC (getK k C)) (wasT (getK k C))).ok w := by
  cases hk : getK k C with
  | none => rfl
  | some m =>
    obtain ⟨x, hx, _, rfl⟩ := getK_some hk
    exact h.1 _ (List.mem_cons_of_mem _ (List.mem_map.2 ⟨x, hx, rfl⟩))
theorem ah_oko {p : Option Nat} {C : List (KA MA)} {T : Nat} {w : World} (h : (Asn.big (ahX p C T)).ok w) : (Asn.mapA encM p C T).ok w := h.1 _ (List.mem_cons_self ..)
instance {enc : VV → Value} {p : Option Nat} {c : List (KA VV)} {t : Nat} : NoRd (.mapA enc p c t) := ⟨fun _ h => h⟩
instance {p : Option Nat} {r t : Nat} {s : List Nat} : NoRd (.itA p r t s) := ⟨fun _ h => h⟩
instance {p : Option Nat} {C : List (KA MA)} {T : Nat} : NoRd (.big (ahX p C T)) := ⟨fun b h => by
  obtain ⟨A, hA, hb⟩ := h
  rcases List.mem_cons.1 hA with rfl | hA
  · exact hb
  · obtain ⟨x, _, rfl⟩ := List.mem_map.1 hA
    exact hb⟩
theorem put_perm {f : KA MA → Asn} (hf : ∀ x y : KA MA, x.v = y.v → f x = f y) {k : Int} {m : MA} {t : Nat} : ∀ C : List (KA MA), ∃ l, (f ⟨k, m, t⟩ :: C.map f).Perm (l ++ (putKv k m t C).map f)
  | [] => ⟨[], List.Perm.refl _⟩
  | x :: r => by
    rw [putKv]
    by_cases h : k = x.k
    · rw [if_pos h]
      refine ⟨[f x], ?_⟩
      rw [List.map_cons, List.map_cons, hf { x with v := m } ⟨k, m, t⟩ rfl]
      exact List.Perm.swap _ _ _
    · rw [if_neg h]
      obtain ⟨l, hl⟩ := put_perm hf r
      refine ⟨l, ?_⟩
      rw [List.map_cons, List.map_cons]
      exact ((List.Perm.swap _ _ _).trans (hl.cons _)).trans List.perm_middle.symm
section
variable {P : Program} {o : Oper} {N : Nat} {K : Nat → Prop} {W w : World} {a : Act} {F : List (Nat × Value)} {L : List Asn} {T kT eT : TypeId} {p : Option Nat} {C : List (KA MA)} {t tC : Nat} {k : Int} {g : Nat} {c : List (KA VV)}
/-- What is there, or what is not. -/
def gvD (k : Int) (c : List (KA VV)) : VV := (getK k c).getD ⟨0, 0⟩
theorem gv_val (x : Option VV) : (x.map encV).getD (.agg #[.int .i64 0, .int .i64 0]) = encV (x.getD ⟨0, 0⟩) := by cases x <;> rfl
theorem r_lookA0v {x y : Operand} (hT : MapTA P T kT eT (.agg #[.int .i64 0, .int .i64 0])) (ho : o.op = .lookup T x y false) (hx : ev F x = some (.map p)) (hy : ev F y = some (.int .i64 k)) (hm : ∀ w, Sh K W w L → (Asn.mapA encV p c t).ok w) : Rn P o N K W F L (.agg #[.int .i64 (gvD k c).s, .int .i64 (gvD k c).n]) := by
  have := r_lookA0 (N := N) hT ho hx hy hm
  rw [gv_val] at this
  exact this
theorem r_lookAv {x y : Operand} (hT : MapTA P T kT eT (.agg #[.int .i64 0, .int .i64 0])) (ho : o.op = .lookup T x y true) (hx : ev F x = some (.map p)) (hy : ev F y = some (.int .i64 k)) (hm : ∀ w, Sh K W w L → (Asn.mapA encV p c t).ok w) : Rn P o N K W F L (.tuple #[.agg #[.int .i64 ((getK k c).getD ⟨0, 0⟩).s, .int .i64 ((getK k c).getD ⟨0, 0⟩).n], .bool (getK k c).isSome]) := by
  have := r_lookA (N := N) hT ho hx hy hm
  rw [gv_val] at this
  exact this
theorem Sh.dropL : ∀ {l : List Asn}, Sh K W w (l ++ L) → Sh K W w L
  | [], h => h
  | _ :: l, h => Sh.dropL (l := l) h.tail
theorem x_makeAh {d : Nat} (h : St N K W a w F L) (ho : o.op = .makeMap T none) (hd : o.dst = some d) (hdN : Nat.blt d N = true) : Ex P o a w (fun a' w' => ∃ g : Nat, St N K W a' w' ((d, .map (some g)) :: F) (.big (ahX (some g) [] 0) :: L)) :=
  (x_makeA encM h ho hd hdN).mono fun a' w' ⟨g, h⟩ => ⟨g, h.fr, Sh.close (B := ahX (some g) [] 0) h.sh⟩
/-- 'v, ok := m[k]', v a map. -/
theorem r_lookAh {x y : Operand} {i : Nat} (hT : MapTA P T kT eT (.map none)) (ho : o.op = .lookup T x y true) (hx : ev F x = some (.map p)) (hy : ev F y = some (.int .i64 k)) (hi : L[i]? = some (.big (ahX p C tC))) : Rn P o N K W F L (.tuple #[.map (wasP (getK k C)), .bool (getK k C).isSome]) := by
  have := r_lookA (N := N) (enc := encM) (K := K) (W := W) (L := L) hT ho hx hy (c := C) (t := tC) fun w h => ah_oko (h.ok _ (List.mem_of_getElem? hi))
  rw [ah_val] at this
  exact this
theorem r_lookAhR {x y : Operand} {i : Nat} (hT : MapTA P T kT eT (.map none)) (ho : o.op = .lookup T x y true) (hx : ev F x = some (.map p)) (hy : ev F y = some (.int .i64 k)) (hi : L[i]? = some (.ro [.big (ahX p C tC)])) : Rn P o N K W F L (.tuple #[.map (wasP (getK k C)), .bool (getK k C).isSome]) := by
  have := r_lookA (N := N) (enc := encM) (K := K) (W := W) (L := L) hT ho hx hy (c := C) (t := tC) fun w h => ah_oko (h.ok _ (List.mem_of_getElem? hi) _ (List.mem_cons_self ..))
  rw [ah_val] at this
  exact this
/-- 'm[k]', a map. -/
theorem r_lookAh0 {x y : Operand} {i : Nat} (hT : MapTA P T kT eT (.map none)) (ho : o.op = .lookup T x y false) (hx : ev F x = some (.map p)) (hy : ev F y = some (.int .i64 k)) (hi : L[i]? = some (.big (ahX p C tC))) : Rn P o N K W F L (.map (wasP (getK k C))) := by
  have := r_lookA0 (N := N) (enc := encM) (K := K) (W := W) (L := L) hT ho hx hy (c := C) (t := tC) fun w h => ah_oko (h.ok _ (List.mem_of_getElem? hi))
  rw [ah_val] at this
  exact this
/-- A map is put into the map. -/
theorem x_putAh {x y u : Operand} (h : St N K W a w F (.big (ahX (some g) C tC) :: .mapA encV p c t :: L)) (hT : MapTA P T kT eT (.map none)) (ho : o.op = .mapUpdate T x y u) (hd : o.dst = none) (hx : ev F x = some (.map (some g))) (hy : ev F y = some (.int .i64 k)) (hz : ev F u = some (.map p)) {gn : Nat} (hp : p = some gn) :
    Ex P o a w (fun a' w' => St N K W a' w' F (.big (ahX (some g) (putKv k ⟨gn, c, t⟩ tC C) (putT k tC C)) :: L)) := by
  subst hp
  have h1 : St N K W a w F (.mapA encM (some g) C tC :: (C.map (fun x => x.v.asn) ++ (MA.asn ⟨gn, c, t⟩ :: L))) := ⟨h.fr, h.sh.open_⟩
  refine (x_updA (enc := encM) (v := ⟨gn, c, t⟩) (i := 0) h1 hT ho hd hx hy hz rfl rfl).mono fun a' w' h2 => ⟨h2.fr, ?_⟩
  obtain ⟨l, hl⟩ := put_perm (f := fun x => x.v.asn) (fun x y e => by show x.v.asn = y.v.asn; rw [e]) (k := k) (m := ⟨gn, c, t⟩) (t := tC) C
  refine Sh.close (Sh.dropL (l := l) (h2.sh.perm ?_))
  show (Asn.mapA encM (some g) _ _ :: (C.map (fun x => x.v.asn) ++ (MA.asn ⟨gn, c, t⟩ :: L))).Perm (l ++ ((.mapA encM (some g) _ _ :: (putKv k ⟨gn, c, t⟩ tC C).map fun x => x.v.asn) ++ L))
  refine List.Perm.trans ?_ (List.perm_middle.symm)
  refine List.Perm.cons _ ?_
  refine List.Perm.trans (List.perm_middle) ?_
  have h9 := hl.append_right L
  rw [List.append_assoc] at h9
  exact h9
end
end Go.Proofs.Ytmgikmjmdppfmaa
end
section
namespace Go.Proofs.Ytmgikmjmdppfmaa
open Go.RowKit
set_option linter.unusedSimpArgs false
set_option linter.unusedVariables false

def VV.cell (x : VV) : Nat → Value
  | 0 => .int .i64 x.s
  | _ => .int .i64 x.n
instance : Enc VV where
  sz := 2
  cell := VV.cell
  whole := encV
  agg := true
  inner _ _ := True
  on _ _ := False
  one h := by cases h
  many _ _ := rfl
  keep _ _ _ h _ := h
  lt _ _ _ _ h := h.elim
instance : Flat VV := ⟨fun _ _ h => h, fun _ _ => trivial⟩
end Go.Proofs.Ytmgikmjmdppfmaa
end
namespace Go.Proofs.Ytmgikmjmdppfmaa
open Go.RowKit
set_option linter.unusedSimpArgs false
set_option linter.unusedVariables false

def envL (R : Nat) (c : List (KA VV)) : List VV := (List.range R).map fun r => gvD ((r : Nat) : Int) c
/-- A map of all registers. -/
structure EnvC (R : Nat) (c : List (KA VV)) : Prop where
  nd : (c.map (·.k)).Nodup
  mem : ∀ k, k ∈ c.map (·.k) ↔ 0 ≤ k ∧ k < (R : Int)
section
variable {R : Nat} {c c2 cw cn : List (KA VV)} {k : Int} {v : VV} {t : Nat}
theorem envL_len : (envL R c).length = R := by simp [envL]
theorem envL_nth {r : Nat} (h : r < R) : nth (envL R c) r = gvD ((r : Nat) : Int) c := nth_mapR h
theorem gv_nth (h : 0 ≤ k ∧ k < (R : Int)) : gvD k c = nth (envL R c) k.toNat := by
  rw [envL_nth (by omega), Int.toNat_of_nonneg h.1]
theorem EnvC.get (h : EnvC R c) (hk : 0 ≤ k ∧ k < (R : Int)) : getK k c = some (gvD k c) := by
  unfold gvD
  cases e : getK k c with
  | some v => rfl
  | none => exact absurd ((h.mem k).2 hk) (getK_none.1 e)
theorem EnvC.put (h : EnvC R c) (hk : 0 ≤ k ∧ k < (R : Int)) : EnvC R (putKv k v t c) := by
  have e : (putKv k v t c).map (·.k) = c.map (·.k) := by rw [putKv_keys, if_pos ((h.mem k).2 hk)]
  exact ⟨by rw [e]; exact h.nd, fun j => by rw [e]; exact h.mem j⟩
theorem gv_put {j : Int} : gvD j (putKv k v t c) = if j = k then v else gvD j c := by
  unfold gvD
  rw [getK_putv]
  split <;> rfl
theorem envL_put (hk : 0 ≤ k ∧ k < (R : Int)) : envL R (putKv k v t c) = (envL R c).set k.toNat v := by
  refine eq_nthL (by rw [List.length_set, envL_len, envL_len]) fun r => ?_
  rcases Nat.lt_or_ge r R with hr | hr
  · rw [nth_setE, envL_nth hr, gv_put, envL_len]
    by_cases e : ((r : Nat) : Int) = k
    · rw [if_pos e, if_pos ⟨by omega, by omega⟩]
    · rw [if_neg e, if_neg (by rintro ⟨h1, _⟩; exact e (by omega)), envL_nth hr]
  · rw [nth_outE _ _ (by rw [envL_len]; exact hr), nth_outE _ _ (by rw [List.length_set, envL_len]; exact hr)]
theorem EnvC.len (h : EnvC R c) : c.length = R := by
  have h1 : (c.map (·.k)).Perm ((List.range R).map fun (i : Nat) => ((i : Nat) : Int)) := by
    rw [List.perm_ext_iff_of_nodup h.nd]
    · intro a
      rw [h.mem, List.mem_map]
      constructor
      · rintro ⟨g1, g2⟩
        exact ⟨a.toNat, List.mem_range.2 (by omega), by omega⟩
      · rintro ⟨i, hi, rfl⟩
        have := List.mem_range.1 hi
        omega
    · exact List.Pairwise.map _ (fun a b hab e => hab (by omega)) List.nodup_range
  have := h1.length_eq
  simpa using this
theorem mapA_born {p : Option Nat} {w : World} (h : (Asn.mapA encV p c t).ok w) : (c.map (·.b)).Nodup := by
  cases p with
  | none => obtain rfl : c = [] := h; exact List.nodup_nil
  | some g => exact (show MapCA encV w g c t from h).born
theorem ka_born (hb : (c.map (·.b)).Nodup) {x y : KA VV} (hx : x ∈ c) (hy : y ∈ c) (e : y.b = x.b) : y = x := by
  induction c with
  | nil => cases hx
  | cons z c ih =>
    rw [List.map_cons, List.nodup_cons] at hb
    rcases List.mem_cons.1 hx with rfl | hx
    · rcases List.mem_cons.1 hy with rfl | hy
      · rfl
      · exact absurd (List.mem_map.2 ⟨y, hy, e⟩) hb.1
    · rcases List.mem_cons.1 hy with e2 | hy
      · exact absurd (List.mem_map.2 ⟨x, hx, by rw [← e2]; exact e.symm⟩) hb.1
      · exact ih hb.2 hx hy
theorem ka_key (hb : (c.map (·.k)).Nodup) {x y : KA VV} (hx : x ∈ c) (hy : y ∈ c) (e : y.k = x.k) : y = x := by
  induction c with
  | nil => cases hx
  | cons z c ih =>
    rw [List.map_cons, List.nodup_cons] at hb
    rcases List.mem_cons.1 hx with rfl | hx
    · rcases List.mem_cons.1 hy with rfl | hy
      · rfl
      · exact absurd (List.mem_map.2 ⟨y, hy, e⟩) hb.1
    · rcases List.mem_cons.1 hy with e2 | hy
      · exact absurd (List.mem_map.2 ⟨x, hx, by rw [← e2]; exact e.symm⟩) hb.1
      · exact ih hb.2 hx hy
/-- While what was is met: those seen are. -/
structure MtI (R : Nat) (ce cw cn : List (KA VV)) (s : List Nat) : Prop where
  env : EnvC R cn
  seen : ∀ x ∈ cw, x.b ∈ s → gvD x.k cn = meetV (gvD x.k ce) x.v
  rest : ∀ k, (∀ x ∈ cw, x.k = k → x.b ∉ s) → gvD k cn = gvD k ce
theorem MtI.start {ce : List (KA VV)} (h : EnvC R ce) : MtI R ce cw ce [] := ⟨h, fun x _ hx => (by cases hx), fun k _ => rfl⟩
theorem MtI.step {ce : List (KA VV)} {s : List Nat} {x : KA VV} (h : MtI R ce cw cn s) (hk : (cw.map (·.k)).Nodup) (hb : (cw.map (·.b)).Nodup) (hx : x ∈ cw) (hs : x.b ∉ s) (hr : 0 ≤ x.k ∧ x.k < (R : Int)) : MtI R ce cw (putKv x.k (meetV (gvD x.k cn) x.v) t cn) (s ++ [x.b]) := by
  refine ⟨h.env.put hr, fun y hy hys => ?_, fun k hk2 => ?_⟩
  · rw [gv_put]
    by_cases e : y.b = x.b
    · obtain rfl := ka_born hb hx hy e
      rw [if_pos rfl, h.rest y.k fun z hz e2 => by rw [ka_key hk hy hz e2]; exact hs]
    · rw [if_neg fun e2 => e (by rw [ka_key hk hx hy e2])]
      refine h.seen y hy ?_
      rcases List.mem_append.1 hys with h9 | h9
      · exact h9
      · exact absurd (List.mem_singleton.1 h9) e
  · rw [gv_put, if_neg fun e => hk2 x hx e.symm (List.mem_append.2 (.inr (List.mem_singleton.2 rfl)))]
    exact h.rest k fun z hz e h9 => hk2 z hz e (List.mem_append.2 (.inl h9))
theorem MtI.fin_none {ce : List (KA VV)} {s : List Nat} (h : MtI R ce [] cn s) : envL R cn = envL R ce :=
  eq_nthL (by rw [envL_len, envL_len]) fun r => by
    rcases Nat.lt_or_ge r R with hr | hr
    · rw [envL_nth hr, envL_nth hr]; exact h.rest _ fun x hx => by cases hx
    · rw [nth_outE _ _ (by rw [envL_len]; exact hr), nth_outE _ _ (by rw [envL_len]; exact hr)]
theorem MtI.fin {ce : List (KA VV)} {s : List Nat} (h : MtI R ce cw cn s) (hw : EnvC R cw) (he : ∀ x ∈ cw, x.b ∈ s) : envL R cn = meetL (envL R ce) (envL R cw) :=
  eq_nthL (by rw [meetL_len, envL_len, envL_len]) fun r => by
    rw [meetL_nth (by rw [envL_len, envL_len])]
    rcases Nat.lt_or_ge r R with hr | hr
    · rw [envL_nth hr, envL_nth hr, envL_nth hr]
      obtain ⟨x, hx, e⟩ := List.mem_map.1 ((hw.mem ((r : Nat) : Int)).2 (by omega))
      have h1 := h.seen x hx (he x hx)
      have h2 : gvD x.k cw = x.v := by unfold gvD; rw [getK_mem hw.nd hx]; rfl
      rw [e] at h1 h2
      rw [h1, h2]
    · rw [nth_outE _ _ (by rw [envL_len]; exact hr), nth_outE _ _ (by rw [envL_len]; exact hr), nth_outE _ _ (by rw [envL_len]; exact hr)]
      rfl
/-- 'maps.Equal'. -/
def eqC (c1 c2 : List (KA VV)) : Bool := decide (c1.length = c2.length) && c1.all fun x => decide (getK x.k c2 = some x.v)
theorem eqC_env {c1 c2 : List (KA VV)} (h1 : EnvC R c1) (h2 : EnvC R c2) : eqC c1 c2 = decide (envL R c1 = envL R c2) := by
  unfold eqC
  rw [Bool.eq_iff_iff]
  simp only [Bool.and_eq_true, decide_eq_true_eq, List.all_eq_true]
  constructor
  · rintro ⟨_, h3⟩
    refine eq_nthL (by rw [envL_len, envL_len]) fun r => ?_
    rcases Nat.lt_or_ge r R with hr | hr
    · rw [envL_nth hr, envL_nth hr]
      obtain ⟨x, hx, e⟩ := List.mem_map.1 ((h1.mem ((r : Nat) : Int)).2 (by omega))
      have h4 := h3 x hx
      have h5 := getK_mem h1.nd hx
      rw [e] at h4 h5
      unfold gvD
      rw [h4, h5]
    · rw [nth_outE _ _ (by rw [envL_len]; exact hr), nth_outE _ _ (by rw [envL_len]; exact hr)]
  · intro h3
    refine ⟨h1.len.trans h2.len.symm, fun x hx => ?_⟩
    have hk := (h1.mem x.k).1 (List.mem_map.2 ⟨x, hx, rfl⟩)
    have h4 : gvD x.k c1 = gvD x.k c2 := by rw [gv_nth hk, gv_nth hk, h3]
    have h5 : gvD x.k c1 = x.v := by unfold gvD; rw [getK_mem h1.nd hx]; rfl
    rw [h2.get hk, ← h4, h5]
theorem eqC_len {c1 c2 : List (KA VV)} (h : c1.length ≠ c2.length) : false = eqC c1 c2 := by
  unfold eqC
  rw [decide_eq_false h]; rfl
theorem eqC_no {c1 c2 : List (KA VV)} {x : KA VV} (hx : x ∈ c1) (h : getK x.k c2 ≠ some x.v) : false = eqC c1 c2 := by
  cases e : eqC c1 c2 with
  | false => rfl
  | true =>
    unfold eqC at e
    simp only [Bool.and_eq_true, decide_eq_true_eq, List.all_eq_true] at e
    exact absurd (e.2 x hx) h
theorem eqC_no1 {c1 c2 : List (KA VV)} {x : KA VV} (hx : x ∈ c1) (h : (getK x.k c2).isSome = false) : false = eqC c1 c2 := eqC_no hx fun e => by rw [e] at h; cases h
theorem eqC_no2 {c1 c2 : List (KA VV)} {x : KA VV} (hx : x ∈ c1) (h : x.v ≠ (getK x.k c2).getD ⟨0, 0⟩) : false = eqC c1 c2 := eqC_no hx fun e => h (by rw [e]; rfl)
theorem eqC_yes {c1 c2 : List (KA VV)} {s : List Nat} (h : ¬ c1.length ≠ c2.length) (hs : ∀ x ∈ c1, x.b ∈ s → getK x.k c2 = some x.v) (he : ∀ x ∈ c1, x.b ∈ s) : true = eqC c1 c2 := by
  unfold eqC
  rw [decide_eq_true (Decidable.not_not.1 h), Bool.true_and]
  exact (List.all_eq_true.2 fun x hx => decide_eq_true (hs x hx (he x hx))).symm
theorem eqC_step {c1 c2 : List (KA VV)} {s : List Nat} {x : KA VV} (hb : (c1.map (·.b)).Nodup) (hs : ∀ x ∈ c1, x.b ∈ s → getK x.k c2 = some x.v) (hx : x ∈ c1) (h1 : (getK x.k c2).isSome = true) (h2 : ¬ x.v ≠ (getK x.k c2).getD ⟨0, 0⟩) : ∀ y ∈ c1, y.b ∈ s ++ [x.b] → getK y.k c2 = some y.v := by
  intro y hy hys
  rcases List.mem_append.1 hys with h9 | h9
  · exact hs y hy h9
  · obtain rfl := ka_born hb hx hy (List.mem_singleton.1 h9)
    have h3 := Decidable.not_not.1 h2
    cases e : getK y.k c2 with
    | none => rw [e] at h1; cases h1
    | some v => rw [e] at h3; exact congrArg some h3.symm
end
-- ---------------------------------------------------------------- all orders
def absA (R : Nat) (C : List (KA MA)) : AF := fun t => (getK ((t : Nat) : Int) C).map fun m => envL R m.c
def WfC (R : Nat) (C : List (KA MA)) : Prop := ∀ k m, getK k C = some m → EnvC R m.c
section
variable {R : Nat} {C : List (KA MA)} {d : Nat} {g t T : Nat} {c : List (KA VV)}
theorem WfC.nil : WfC R [] := fun k m h => by cases h
theorem WfC.put (h : WfC R C) (hc : EnvC R c) {k : Int} : WfC R (putKv k ⟨g, c, t⟩ T C) := fun j m hm => by
  rw [getK_putv] at hm
  split at hm
  · rw [← Option.some.inj hm]; exact hc
  · exact h j m hm
theorem abs_nil : absA R [] = noneA := rfl
theorem abs_put : absA R (putKv ((d : Nat) : Int) ⟨g, c, t⟩ T C) = updA (absA R C) d (envL R c) := by
  funext x
  unfold absA updA
  rw [getK_putv]
  by_cases h : x = d
  · rw [if_pos h, if_pos (by rw [h])]; rfl
  · rw [if_neg h, if_neg (by omega)]
/-- What one comes to with: what was is met. -/
theorem MtI.all {ce cn : List (KA VV)} {s : List Nat} (hC : WfC R C) (h : MtI R ce (wasC (getK ((d : Nat) : Int) C)) cn s) (he : ∀ x ∈ wasC (getK ((d : Nat) : Int) C), x.b ∈ s) : envL R cn = mtA (absA R C) d (envL R ce) := by
  unfold mtA absA
  cases hk : getK ((d : Nat) : Int) C with
  | none => rw [hk] at h; exact h.fin_none
  | some m => rw [hk] at h he; exact h.fin (hC _ _ hk) he
/-- Unless it is the same: it is entered. -/
theorem lead_same {ce cn : List (KA VV)} {wk : List Nat} (hC : WfC R C) (hn : EnvC R cn) (h : envL R cn = mtA (absA R C) d (envL R ce)) (hs : (getK ((d : Nat) : Int) C).isSome = true) (he : eqC cn (wasC (getK ((d : Nat) : Int) C)) = true) : leadF (absA R C) wk d (envL R ce) = (absA R C, wk) := by
  unfold leadF
  rw [if_pos]
  rw [← h]
  unfold absA
  cases hk : getK ((d : Nat) : Int) C with
  | none => rw [hk] at hs; cases hs
  | some m =>
    rw [hk] at he
    have h3 := of_decide_eq_true ((eqC_env hn (hC _ _ hk)).symm.trans he)
    show some (envL R m.c) = _
    rw [h3]
theorem lead_new {ce cn : List (KA VV)} {wk : List Nat} (hC : WfC R C) (hn : EnvC R cn) (h : envL R cn = mtA (absA R C) d (envL R ce)) (hs : (getK ((d : Nat) : Int) C).isSome = false ∨ eqC cn (wasC (getK ((d : Nat) : Int) C)) = false) : leadF (absA R C) wk d (envL R ce) = (absA R (putKv ((d : Nat) : Int) ⟨g, cn, t⟩ T C), wk ++ [d]) := by
  unfold leadF
  rw [if_neg]
  · rw [abs_put, h]
  · rw [← h]
    unfold absA
    cases hk : getK ((d : Nat) : Int) C with
    | none => exact fun h9 => by cases h9
    | some m =>
      rw [hk] at hs
      rcases hs with hs | hs
      · cases hs
      · have h3 := of_decide_eq_false ((eqC_env hn (hC _ _ hk)).symm.trans hs)
        exact fun h9 => h3 (Option.some.inj h9).symm
theorem WfC.was (h : WfC R C) (k : Int) : ((wasC (getK k C)).map (·.k)).Nodup ∧ ∀ x ∈ wasC (getK k C), 0 ≤ x.k ∧ x.k < (R : Int) := by
  cases hk : getK k C with
  | none => exact ⟨List.nodup_nil, fun x hx => by cases hx⟩
  | some m => exact ⟨(h k m hk).nd, fun x hx => ((h k m hk).mem x.k).1 (List.mem_map.2 ⟨x, hx, rfl⟩)⟩
/-- Numbers, as Go has them. -/
def nI (l : List Nat) : List Int := l.map fun n => ((n : Nat) : Int)
theorem nI_snoc {l : List Nat} {d : Nat} : nI (l ++ [d]) = nI l ++ [((d : Nat) : Int)] := by simp [nI]
theorem nI_len {l : List Nat} : (nI l).length = l.length := by simp [nI]
/-- What an order makes, if it reckons. -/
def rkD (x : Ins) (R : Nat) (c : List (KA VV)) : VV := if 1 ≤ x.op ∧ x.op ≤ 7 then rkV x (envL R c) else ⟨0, 0⟩
def rkG (x : Ins) (a b : VV) : VV := if x.op = 1 then ⟨1, x.b⟩ else if x.op = 2 then a else rk2 x.op a b
theorem rkD_gv {x : Ins} (hb : 2 ≤ x.op ∧ x.op ≤ 7 → 0 ≤ x.b ∧ x.b < (R : Int)) (hc : 3 ≤ x.op ∧ x.op ≤ 7 → 0 ≤ x.c ∧ x.c < (R : Int)) : rkD x R c = if 1 ≤ x.op ∧ x.op ≤ 7 then rkG x (gvD x.b c) (gvD x.c c) else ⟨0, 0⟩ := by
  unfold rkD rkG rkV
  by_cases h : 1 ≤ x.op ∧ x.op ≤ 7
  · rw [if_pos h, if_pos h]
    by_cases h1 : x.op = 1
    · rw [if_pos h1, if_pos h1]
    · rw [if_neg h1, if_neg h1, gv_nth (hb (by omega))]
      by_cases h2 : x.op = 2
      · rw [if_pos h2, if_pos h2]
      · rw [if_neg h2, if_neg h2, gv_nth (hc (by omega))]
  · rw [if_neg h, if_neg h]
section
variable {x : Ins} {a b : Int}
theorem arV_3 (a b : Int) (h : x.op = 3) : wrap64 (a + b) = arV x.op a b := by unfold arV; rw [if_pos h]
theorem arV_4 (a b : Int) (h : x.op = 4) : wrap64 (a - b) = arV x.op a b := by unfold arV; rw [if_neg (by omega), if_pos h]
theorem arV_5 (a b : Int) (h : x.op = 5) : wrap64 (a * b) = arV x.op a b := by unfold arV; rw [if_neg (by omega), if_neg (by omega), if_pos h]
theorem arV_6 (a b : Int) (h : x.op = 6) : (if decide (a < b) = true then (1 : Int) else 0) = arV x.op a b := by
  have e : arV x.op a b = if a < b then 1 else 0 := by unfold arV; rw [if_neg (by omega), if_neg (by omega), if_neg (by omega), if_pos h]
  rw [e]; simp
theorem arV_7 (a b : Int) (h : x.op = 7) : (if decide (a = b) = true then (1 : Int) else 0) = arV x.op a b := by
  have e : arV x.op a b = if a = b then 1 else 0 := by unfold arV; rw [if_neg (by omega), if_neg (by omega), if_neg (by omega), if_neg (by omega)]
  rw [e]; simp
variable (hb : 2 ≤ x.op ∧ x.op ≤ 7 → 0 ≤ x.b ∧ x.b < (R : Int)) (hc : 3 ≤ x.op ∧ x.op ≤ 7 → 0 ≤ x.c ∧ x.c < (R : Int))
include hb hc
theorem rkD_1 (h : x.op = 1) : rkD x R c = ⟨1, x.b⟩ := by rw [rkD_gv hb hc, if_pos (by omega)]; unfold rkG; rw [if_pos h]
theorem rkD_2 (h : x.op = 2) : rkD x R c = gvD x.b c := by rw [rkD_gv hb hc, if_pos (by omega)]; unfold rkG; rw [if_neg (by omega), if_pos h]
theorem rkD_n (h : ¬ (1 ≤ x.op ∧ x.op ≤ 7)) : rkD x R c = ⟨0, 0⟩ := by rw [rkD_gv hb hc, if_neg h]
theorem rkD_0 (h : 3 ≤ x.op ∧ x.op ≤ 7) (h0 : (gvD x.b c).s = 0 ∨ (gvD x.c c).s = 0) : rkD x R c = ⟨0, 0⟩ := by rw [rkD_gv hb hc, if_pos (by omega)]; unfold rkG; rw [if_neg (by omega), if_neg (by omega)]; unfold rk2; rw [if_pos h0]
theorem rkD_a (h : 3 ≤ x.op ∧ x.op ≤ 7) (h0 : ¬ ((gvD x.b c).s = 0 ∨ (gvD x.c c).s = 0)) (h2 : (gvD x.b c).s = 2 ∨ (gvD x.c c).s = 2) : rkD x R c = ⟨2, 0⟩ := by rw [rkD_gv hb hc, if_pos (by omega)]; unfold rkG; rw [if_neg (by omega), if_neg (by omega)]; unfold rk2; rw [if_neg h0, if_pos h2]
theorem rkD_v (h : 3 ≤ x.op ∧ x.op ≤ 7) (h0 : ¬ ((gvD x.b c).s = 0 ∨ (gvD x.c c).s = 0)) (h2 : ¬ ((gvD x.b c).s = 2 ∨ (gvD x.c c).s = 2)) {n : Int} (hn : n = arV x.op (gvD x.b c).n (gvD x.c c).n) : rkD x R c = ⟨1, n⟩ := by rw [rkD_gv hb hc, if_pos (by omega)]; unfold rkG; rw [if_neg (by omega), if_neg (by omega)]; unfold rk2; rw [if_neg h0, if_neg h2, hn]
end
end
end Go.Proofs.Ytmgikmjmdppfmaa
