/-
  What always is one number: the document's rows.
-/
import Derived.Test.YtmgikmjmdppfmaaS53
import Derived.Test.YtmgikmjmdppfmaaS14
import Derived.Test.YtmgikmjmdppfmaaX130
section
namespace Go.Proofs.Ytmgikmjmdppfmaa
open Go.RowKit
set_option linter.unusedSimpArgs false
set_option linter.unusedVariables false

instance : One VV := ⟨fun x _ _ q _ => by match q with | 0 => rfl | _ + 1 => rfl⟩
section
variable {P : Program} {o : Oper} {N : Nat} {K : Nat → Prop} {W w : World} {a : Act} {F : List (Nat × Value)} {L : List Asn} {E IE : TypeId} {v : Value} {M : List (Ls VV)}
theorem cellsVV (x : VV) : cellsOf x = [.int .i64 x.s, .int .i64 x.n] := rfl
theorem encL_setVV (x : VV) : ∀ (m : List VV) (i : Nat), i < m.length → encL (m.set i x) = splice (encL m) (i * 2) (cellsOf x)
  | [], _, h => by simp at h
  | y :: m, 0, _ => by
    have hy : ∀ (z : VV) (m : List VV), encL (z :: m) = cellsOf z ++ encL m := fun z m => by simp [encL]
    rw [List.set_cons_zero, hy, hy]
    simp [splice, cellsVV]
  | y :: m, i + 1, h => by
    have hy : ∀ (z : VV) (m : List VV), encL (z :: m) = cellsOf z ++ encL m := fun z m => by simp [encL]
    rw [List.set_cons_succ, hy, hy, encL_setVV x m i (by simpa using h)]
    have e3 : (i + 1) * 2 = 2 + i * 2 := by omega
    have hc : ∀ z : VV, (cellsOf z).length = 2 := fun z => rfl
    simp only [splice, e3, List.take_append, List.drop_append, hc]
    rw [List.take_of_length_le (l := cellsOf y) (by rw [hc]; omega), List.drop_of_length_le (l := cellsOf y) (by rw [hc]; omega)]
    have e4 : 2 + i * 2 - 2 = i * 2 := by omega
    have e5 : 2 + i * 2 + 2 - 2 = i * 2 + 2 := by omega
    rw [e4, e5]
    simp
theorem x_stewV {T : TypeId} {gg : Bool} {by_ : Nat} {z : List Value} {x y : Operand} {i r : Nat} {E : TypeId} {s : Ls VV} {x' : VV} (h : St N K W a w F L) (hT : tyI P T = some (gg, 2, by_, z)) (ho : o.op = .store T x y) (hd : o.dst = none)
    (hx : ev F x = some (.pointer (some (padr s.v 2 i 0)))) (hr : L[r]? = some (.own E s)) (hi : i < s.l.length) (hy : ev F y = some (.agg #[.int .i64 x'.s, .int .i64 x'.n])) :
    Ex P o a w (fun a' w' => St N K W a' w' F (L.set r (.own E ⟨s.v, s.l.set i x'⟩))) := by
  obtain ⟨ti, e, zv, hti, he, _, hs, _⟩ := tyI_parts hT
  have hok := h.sh.ok _ (List.mem_of_getElem? hr)
  obtain ⟨hown, hlen, hinn⟩ := hok
  rcases hown.2 with ⟨_, h0⟩ | ⟨g, cap, cur, hsv, hb0, hg, hn, hm, hcs, htk⟩
  · omega
  have hsz : Enc.sz VV = 2 := rfl
  rw [hsz] at hcs htk
  have hp : padr s.v 2 i 0 = ⟨g, i * 2, none⟩ := by rw [hsv]; simp [padr, vblk, voff]
  have hB : Blk w g E cur := hg
  have h4 : i * 2 + 2 ≤ cur.size := by rw [hcs]; omega
  have hrun := run_storeCells_at P g (i * 2) E (cellsOf x') 0 cur w hB (by rw [cellsVV]; simp; omega) (fun u hu => by
    rw [cellsVV] at hu
    simp only [List.mem_cons, List.not_mem_nil, or_false] at hu
    rcases hu with rfl | rfl <;> rfl)
  have hcl : cur.toList.length = cap * 2 := by simpa using hcs
  have hcur : (splice cur.toList (i * 2) (cellsOf x')).take (s.l.length * 2) = encL (s.l.set i x') := by
    rw [encL_setVV x' s.l i hi, ← htk]
    have hvl : (cellsOf x').length = 2 := rfl
    simp only [splice, hvl]
    apply List.ext_getElem?
    intro k
    simp only [List.getElem?_take, List.getElem?_append, List.getElem?_drop, List.length_take, List.length_append, hvl, List.length_drop, hcl]
    have e6 : min (i * 2) (cap * 2) = i * 2 := by omega
    have e7 : min (i * 2) (min (s.l.length * 2) (cap * 2)) = i * 2 := by omega
    simp only [e6, e7]
    repeat' split
    all_goals first | rfl | (exfalso; omega) | (congr 1; omega)
  refine Ex.of_skip (w' := w.setRow g (splice cur.toList (i * 2) (cellsOf x')).toArray) ?_ ?_
  · unfold execOp
    have hsz2 : (Value.agg #[.int .i64 x'.s, .int .i64 x'.n]).cells.size = ti.size := by simp [Value.cells, hs]
    have hce : (Value.agg #[.int .i64 x'.s, .int .i64 x'.n]).cells.toList = cellsOf x' := by simp [Value.cells, cellsVV]
    simp only [ho, h.fr.ev hx, h.fr.ev hy, Instr.storeAt, Instr.sureAddr, storeVar, Sem.run_bind, Sem.run_pure, Result.andThen_ok, run_sizeOf hti]
    simp only [hsz2, ne_eq, not_true_eq_false, if_false, hce, Nat.add_zero, hp] at hrun ⊢
    rw [hrun]
    simp [splice]
  · rw [hd]
    have hfp : (Asn.own E s).fp g := by show s.v.ownBlock = some g; rw [hsv]; rfl
    refine ⟨h.fr, h.sh.put hr ⟨rfl, rfl, rfl, by simp [World.setRow], fun b hb hne => setRow_other w g b _ (fun e => hne (by rw [e]; exact hfp))⟩ ⟨⟨?_, .inr ⟨g, cap, _, ?_, hb0, setRow_heap w g _ _ E (0, 0) hB, by simpa using hn, hm, ?_, ?_⟩⟩, by simpa using hlen, fun q hq => trivial⟩ (fun b hb => .inl hb) (fun b hb => ?_) (fun b hb hb' => ?_)⟩
    · rw [length_encL]
    · show s.v = _
      rw [hsv, List.length_set]
    · rw [hsz]
      have hvl : (cellsOf x').length = 2 := rfl
      simp only [splice, List.size_toArray, List.length_append, List.length_take, List.length_drop, hvl, hcl]
      omega
    · show List.take ((s.l.set i x').length * Enc.sz VV) _ = _
      rw [List.length_set, hsz]; exact hcur
    · obtain ⟨q, _, hb⟩ := hb; exact hb.elim
    · obtain ⟨q, _, hb'⟩ := hb'; exact hb'.elim
theorem x_stMatV {T : TypeId} {gg : Bool} {by_ i q : Nat} {z : List Value} {x y : Operand} {x' : VV} (h : St N K W a w F (.big (matX (.own IE) E v M) :: L)) (hT : tyI P T = some (gg, 2, by_, z)) (ho : o.op = .store T x y) (hd : o.dst = none)
    (hx : ev F x = some (.pointer (some (padr (nth M i).v 2 q 0)))) (hi : i < M.length) (hq : q < (nth M i).l.length) (hy : ev F y = some (.agg #[.int .i64 x'.s, .int .i64 x'.n])) :
    Ex P o a w (fun a' w' => St N K W a' w' F (.big (matX (.own IE) E v (M.set i ⟨(nth M i).v, (nth M i).l.set q x'⟩)) :: L)) := by
  have h2 : St N K W a w F (.own IE (nth M i) :: (.own E (⟨v, rvs M⟩ : Ls RV) :: ((M.eraseIdx i).map (.own IE) ++ L))) := ⟨h.fr, h.sh.open_.perm (by
    rw [nth_lt _ _ hi]
    refine List.Perm.trans ((List.Perm.append_right _ ((perm_erase M i hi).map (Asn.own IE))).cons _) ?_
    exact List.Perm.swap _ _ _)⟩
  refine (x_stewV (s := nth M i) (r := 0) (i := q) (x' := x') h2 hT ho hd hx rfl hq hy).mono fun a' w' h3 => ⟨h3.fr, Sh.close (h3.sh.perm ?_)⟩
  · unfold matX
    rw [rvs_set_same _ _ _ hi]
    show List.Perm (Asn.own IE (⟨(nth M i).v, (nth M i).l.set q x'⟩ : Ls VV) :: Asn.own E _ :: _) _
    refine (List.Perm.swap _ _ _).trans (List.Perm.cons _ ?_)
    have := ((perm_set (⟨(nth M i).v, (nth M i).l.set q x'⟩ : Ls VV) M i hi).map (Asn.own IE)).symm
    exact this.append_right L
instance {α : Type} [Enc α] [Flat α] {M : List (Ls α)} {IE E : TypeId} {v : Value} : NoRd (.big (matX (.own IE) E v M)) := ⟨fun b h => by
  obtain ⟨A, hA, hb⟩ := h
  rcases List.mem_cons.1 hA with rfl | hA
  · obtain ⟨i, hi, h9⟩ := hb
    exact h9
  · obtain ⟨x, _, rfl⟩ := List.mem_map.1 hA
    exact Flat.noRd hb⟩
theorem mat_on {α : Type} [Enc α] [Flat α] {M : List (Ls α)} (h : (Asn.big (matX (.own IE) E v M)).ok w) {j : Nat} (hj : j < M.length) {b : Nat} (hb : (nth M j).on b) : (Asn.big (matX (.own IE) E v M)).fp b :=
  ⟨.own IE (nth M j), List.mem_cons_of_mem _ (List.mem_map.2 ⟨_, nth_mem _ _ hj, rfl⟩), (own_on (h.1 _ (List.mem_cons_of_mem _ (List.mem_map.2 ⟨_, nth_mem _ _ hj, rfl⟩))) hb).resolve_right (fun h9 => Flat.noRd h9)⟩
theorem snoc_thE {α : Type} [Inhabited α] {os : List α} {x : α} {t : Nat} {A : α → Nat → Prop} (hl : os.length = t) (h : ∀ u, u < t → A (nth os u) u) (hx : A x t) : ∀ u, u < t + 1 → A (nth (os ++ [x]) u) u := by
  intro u hu
  rcases Nat.lt_or_ge u t with h9 | h9
  · have e : nth (os ++ [x]) u = nth os u := by unfold nth List.getD; rw [List.getElem?_append_left (by omega)]
    rw [e]; exact h u h9
  · obtain rfl : u = t := by omega
    have e : nth (os ++ [x]) u = x := by unfold nth List.getD; rw [List.getElem?_append_right (by omega), hl, Nat.sub_self]; rfl
    rw [e]; exact hx
end
end Go.Proofs.Ytmgikmjmdppfmaa
end
namespace Go.Proofs.Ytmgikmjmdppfmaa
open Go.RowKit
set_option linter.unusedSimpArgs false
set_option linter.unusedVariables false

def zerosE (R : Nat) : List VV := List.replicate R ⟨0, 0⟩
def absR (gs : List Bool) (M : List (Ls VV)) : AF := fun t => if nth gs t = true then some (nth M t).l else none
structure RdO (R n : Nat) (gs : List Bool) (M : List (Ls VV)) : Prop where
  gl : gs.length = n + 1
  ml : M.length = n + 1
  ok : ∀ t, t ≤ n → OkEn R (nth M t).l
  zero : ∀ t, t ≤ n → nth gs t = false → (nth M t).l = zerosE R
/-- While a row is met: those up to r are. -/
structure LdI (R d : Nat) (M : List (Ls VV)) (env : List VV) (mo1 : Bool) (r : Nat) (M2 : List (Ls VV)) (mo2 : Bool) : Prop where
  len : M2.length = M.length
  oth : ∀ t, t ≠ d → nth M2 t = nth M t
  row : (nth M2 d).l.length = R
  val : ∀ j, nth (nth M2 d).l j = if j < r then meetR (nth (nth M d).l j) (nth env j) else nth (nth M d).l j
  mo : mo2 = true ↔ mo1 = true ∨ (nth M2 d).l ≠ (nth M d).l
section
variable {R n d r : Nat} {gs : List Bool} {M M2 : List (Ls VV)} {env : List VV} {mo1 mo2 more : Bool}
theorem LdI.start (hR : (nth M d).l.length = R) : LdI R d M env mo1 0 M mo1 := ⟨rfl, fun _ _ => rfl, hR, fun j => by rw [if_neg (by omega)], ⟨.inl, fun h => h.resolve_right (fun h2 => h2 rfl)⟩⟩
theorem LdI.at_ (h : LdI R d M env mo1 r M2 mo2) : nth (nth M2 d).l r = nth (nth M d).l r := by rw [h.val, if_neg (by omega)]
theorem LdI.same (h : LdI R d M env mo1 r M2 mo2) (he : meetR (nth (nth M2 d).l r) (nth env r) = nth (nth M2 d).l r) : LdI R d M env mo1 (r + 1) M2 mo2 := by
  refine ⟨h.len, h.oth, h.row, fun j => ?_, h.mo⟩
  have h1 := h.at_
  by_cases h2 : j = r
  · subst h2
    rw [if_pos (by omega), ← h1, he]
  · rw [h.val]
    by_cases h3 : j < r
    · rw [if_pos h3, if_pos (by omega)]
    · rw [if_neg h3, if_neg (by omega)]
theorem nth_setLs (l : List (Ls VV)) (i k : Nat) (v : Ls VV) : nth (l.set i v) k = if i = k ∧ i < l.length then v else nth l k := by
  simp only [nth, List.getD, List.getElem?_set]
  by_cases h : i = k
  · subst h
    by_cases h2 : i < l.length <;> simp [h2]
  · simp [h]
theorem LdI.put (h : LdI R d M env mo1 r M2 mo2) (hr : r < R) (hd : d < M.length) (he : meetR (nth (nth M2 d).l r) (nth env r) ≠ nth (nth M2 d).l r) : LdI R d M env mo1 (r + 1) (M2.set d ⟨(nth M2 d).v, (nth M2 d).l.set r (meetR (nth (nth M2 d).l r) (nth env r))⟩) true := by
  have h1 := h.at_
  have hd2 : d < M2.length := by rw [h.len]; exact hd
  have e : nth (M2.set d ⟨(nth M2 d).v, (nth M2 d).l.set r (meetR (nth (nth M2 d).l r) (nth env r))⟩) d = ⟨(nth M2 d).v, (nth M2 d).l.set r (meetR (nth (nth M2 d).l r) (nth env r))⟩ := by rw [nth_setLs, if_pos ⟨rfl, hd2⟩]
  refine ⟨by rw [List.length_set]; exact h.len, fun t ht => by rw [nth_setLs, if_neg (fun h9 => ht h9.1.symm)]; exact h.oth t ht, by rw [e]; show (List.set _ _ _).length = R; rw [List.length_set]; exact h.row, fun j => ?_, ⟨fun _ => .inr fun h9 => ?_, fun _ => rfl⟩⟩
  · rw [e]
    show nth ((nth M2 d).l.set r _) j = _
    rw [nth_setE, h.row]
    by_cases h2 : r = j
    · subst h2
      rw [if_pos ⟨rfl, hr⟩, if_pos (by omega), h1]
    · rw [if_neg (fun h9 => h2 h9.1), h.val]
      by_cases h3 : j < r
      · rw [if_pos h3, if_pos (by omega)]
      · rw [if_neg h3, if_neg (by omega)]
  · rw [e] at h9
    have h10 := congrArg (fun l => nth l r) h9
    simp only at h10
    rw [nth_setE, if_pos ⟨rfl, by rw [h.row]; exact hr⟩, ← h1] at h10
    exact he h10
/-- The row then. -/
theorem LdI.fin (h : LdI R d M env mo1 R M2 mo2) (hO : RdO R n gs M) (hd : d ≤ n) (he : OkEn R env) : (nth M2 d).l = mtA (absR gs M) d env := by
  have hok := hO.ok d hd
  refine eq_nthL ?_ fun j => ?_
  · rw [h.row]
    unfold mtA absR
    cases hg : nth gs d with
    | false => exact he.1.symm
    | true => show R = (meetL env (nth M d).l).length; rw [meetL_len]; exact he.1.symm
  · rw [h.val]
    unfold mtA absR
    cases hg : nth gs d with
    | false =>
      show _ = nth env j
      have hz := hO.zero d hd hg
      by_cases hj : j < R
      · rw [if_pos hj, hz]
        have : nth (zerosE R) j = ⟨0, 0⟩ := by simp [zerosE, nth, hj]
        rw [this]
        unfold meetR
        rw [if_pos rfl]
      · rw [if_neg hj, nth_outE _ _ (by rw [hok.1]; omega), nth_outE _ _ (by rw [he.1]; omega)]
    | true =>
      show _ = nth (meetL env (nth M d).l) j
      rw [meetL_nth (he.1.trans hok.1.symm)]
      by_cases hj : j < R
      · rw [if_pos hj, meetR_eq (hok.2 j) (he.2 j)]
      · rw [if_neg hj, nth_outE _ _ (by rw [hok.1]; omega), nth_outE _ _ (by rw [he.1]; omega)]; rfl
theorem nth_setB (l : List Bool) (i k : Nat) (v : Bool) : nth (l.set i v) k = if i = k ∧ i < l.length then v else nth l k := by
  simp only [nth, List.getD, List.getElem?_set]
  by_cases h : i = k
  · subst h
    by_cases h2 : i < l.length <;> simp [h2]
  · simp [h]
theorem set_trueB {l : List Bool} {i : Nat} (h : nth l i = true) : l.set i true = l := by
  apply List.ext_getElem?
  intro k
  rw [List.getElem?_set]
  by_cases hk : i = k
  · subst hk
    rw [if_pos rfl]
    by_cases hl : i < l.length
    · rw [if_pos hl, List.getElem?_eq_getElem hl]
      rw [nth_lt _ _ hl] at h
      rw [h]
    · rw [if_neg hl, List.getElem?_eq_none (by omega)]
  · rw [if_neg hk]
theorem LdI.leadR (h : LdI R d M env (more || !nth gs d) R M2 mo2) (hO : RdO R n gs M) (hd : d ≤ n) (he : OkEn R env) : RdO R n (gs.set d true) M2 ∧ (absR (gs.set d true) M2, mo2) = leadR (absR gs M) more d env := by
  have hf := h.fin hO hd he
  have hdg : d < gs.length := by rw [hO.gl]; omega
  have hoA : OkA R n (absR gs M) := fun t e ht => by
    unfold absR at ht
    split at ht
    · rename_i hg
      obtain rfl := Option.some.inj ht
      rcases Nat.lt_or_ge n t with h9 | h9
      · exfalso
        have : nth gs t = false := by unfold nth List.getD; rw [List.getElem?_eq_none (by rw [hO.gl]; omega)]; rfl
        rw [this] at hg; cases hg
      · exact ⟨h9, hO.ok t h9⟩
    · cases ht
  have hok : OkEn R (nth M2 d).l := by rw [hf]; exact mtA_ok hoA he
  have habs : absR (gs.set d true) M2 = updA (absR gs M) d (mtA (absR gs M) d env) := by
    funext t
    unfold updA
    by_cases ht : t = d
    · subst ht
      rw [if_pos rfl, ← hf]
      unfold absR
      have h8 : nth (gs.set t true) t = true := by rw [nth_setB, if_pos ⟨rfl, hdg⟩]
      rw [h8, if_pos rfl]
    · rw [if_neg ht]
      unfold absR
      have h8 : nth (gs.set d true) t = nth gs t := by rw [nth_setB, if_neg (fun h9 => ht h9.1.symm)]
      rw [h8, h.oth t ht]
  refine ⟨⟨by rw [List.length_set]; exact hO.gl, h.len.trans hO.ml, fun t ht => ?_, fun t ht hg => ?_⟩, ?_⟩
  · by_cases h9 : t = d
    · rw [h9]; exact hok
    · rw [h.oth t h9]; exact hO.ok t ht
  · by_cases h9 : t = d
    · subst h9; rw [nth_setB, if_pos ⟨rfl, hdg⟩] at hg; cases hg
    · rw [nth_setB, if_neg (fun h8 => h9 h8.1.symm)] at hg
      rw [h.oth t h9]; exact hO.zero t ht hg
  · unfold Go.Proofs.Ytmgikmjmdppfmaa.leadR
    rw [habs]
    by_cases hs : absR gs M d = some (mtA (absR gs M) d env)
    · rw [if_pos hs, updA_same hs]
      congr 1
      have hg : nth gs d = true := by
        unfold absR at hs
        split at hs
        · assumption
        · cases hs
      have hr : (nth M2 d).l = (nth M d).l := by
        rw [hf]
        unfold absR at hs
        rw [if_pos hg] at hs
        have := Option.some.inj hs
        exact this.symm
      have hm := h.mo
      rw [hg] at hm
      rw [Bool.eq_iff_iff, hm]
      simp [hr]
    · rw [if_neg hs]
      congr 1
      rw [h.mo]
      cases hg : nth gs d with
      | false => exact .inl (by simp)
      | true =>
        refine .inr fun h9 => hs ?_
        rw [← hf, h9]
        unfold absR
        rw [if_pos hg]
end
end Go.Proofs.Ytmgikmjmdppfmaa
