/-
  The steps of slices.Delete: a slice by three numbers, what lies behind a slice's end, its clearing. It imports nothing of the dump.
-/
import Derived.Test.YtmjkobhkkjgplaaGreatDoorS14
import Derived.Test.YtmjkobhkkjgplaaGreatDoorS27
namespace Go.Proofs.YtmjkobhkkjgplaaGreatDoor
open Go.RowKit
set_option linter.unusedSimpArgs false
set_option linter.unusedVariables false

def vcap (v : Value) : Nat := match v with
  | .slice _ _ c => c
  | _ => 0
def vsub (v : Value) (sz lo hi : Nat) : Value := match v with
  | .slice A n c => .slice (if c = lo then A else A.map (·.add (lo * sz))) (hi - lo) (c - lo)
  | v => v
theorem setCells_chg {X : Nat → Prop} {g : Nat} (hg : X g) : ∀ (vs : List Value) (o : Nat) (w : World), Chg X w (w.setCells g o vs)
  | [], _, _ => Chg.refl _ _
  | v :: vs, o, w => ((Chg.setCell (X := X) w ⟨g, o, none⟩ hg v)).trans (setCells_chg hg vs (o + 1) _) fun b hb => .inl hb
theorem setCells_row {g : Nat} {E : TypeId} : ∀ (vs : List Value) (o : Nat) (w : World) (cur : Array Value), w.heap[g]? = some (.cells cur E (0, 0)) → ∃ cur', (w.setCells g o vs).heap[g]? = some (.cells cur' E (0, 0)) ∧ cur'.size = cur.size ∧ ∀ k, k < o → cur'[k]? = cur[k]?
  | [], _, _, cur, h => ⟨cur, h, rfl, fun _ _ => rfl⟩
  | v :: vs, o, w, cur, h => by
    have h2 : Blk (w.setCell ⟨g, o, none⟩ v) g E (cur.setIfInBounds o v) := Blk.set_ (w := w) h o v
    obtain ⟨cur', h3, h4, h5⟩ := setCells_row vs (o + 1) _ _ h2
    refine ⟨cur', h3, h4.trans (by simp), fun k hk => (h5 k (by omega)).trans ?_⟩
    rw [Array.getElem?_setIfInBounds_ne (by omega)]
section
variable {P : Program} {o : Oper} {N : Nat} {K : Nat → Prop} {W w : World} {a : Act} {F : List (Nat × Value)} {L : List Asn} {α : Type} [Enc α]
/-- clear(s[len(s):hi]). -/
theorem x_clearT {T e : TypeId} {gg : Bool} {sz by_ r hi : Nat} {z : List Value} {x : Operand} {s : Ls α} {E : TypeId} (h : St N K W a w F L) (hT : slI P T = some e) (he : tyI P e = some (gg, sz, by_, z)) (ho : o.op = .call ⟨.builtin .clear, #[x], #[T]⟩)
    (hx : ev F x = some (vsub s.v sz s.l.length hi)) (hr : L[r]? = some (.own E s)) (hsz : Enc.sz α = sz) (hz1 : z.all (·.oneCell') = true) (hzl : z.length = sz) (hh : s.l.length < hi ∧ hi ≤ vcap s.v) (hd : o.dst = none) : Ex P o a w (fun a' w' => St N K W a' w' F L) := by
  subst hsz
  obtain ⟨hown, hlen, hinn⟩ := h.sh.ok _ (List.mem_of_getElem? hr)
  rcases hown.2 with ⟨h1, _⟩ | ⟨g, cap, cur, hsv, hb0, hg, hn, hm, hcs, htk⟩
  · rw [h1] at hh; simp [vcap] at hh; omega
  obtain ⟨i, d, zv, hi', hd', _, hs, hby, hzz, hzc⟩ := tyI_parts he
  have hcap : hi ≤ cap := by have := hh.2; rw [hsv] at this; exact this
  have hx' : vsub s.v (Enc.sz α) s.l.length hi = .slice (some ⟨g, s.l.length * Enc.sz α, none⟩) (hi - s.l.length) (cap - s.l.length) := by
    rw [hsv]; simp only [vsub]; rw [if_neg (by omega)]; simp [Addr.add_lit]
  obtain ⟨zs, hzs⟩ : ∃ zs, (Builtin.zeroCells zv.cells (hi - s.l.length)).toList = zs := ⟨_, rfl⟩
  have hcsz : zv.cells.size = Enc.sz α := by rw [← hzl, ← hzc]; simp
  have hzsl : zs.length = (hi - s.l.length) * Enc.sz α := by rw [← hzs]; simp [Builtin.zeroCells, hcsz]
  have hz1' : ∀ v ∈ zs, v.oneCell' = true := by
    intro v hv
    rw [← hzs] at hv
    simp only [Builtin.zeroCells, Array.toList_map, List.mem_map, Array.mem_toList_iff, Array.mem_range] at hv
    obtain ⟨q, hq, rfl⟩ := hv
    have hpos : 0 < zv.cells.size := by
      rcases Nat.eq_zero_or_pos zv.cells.size with h0 | h0
      · rw [h0] at hq; omega
      · exact h0
    have hmod := Nat.mod_lt q hpos
    rw [getElem!_pos zv.cells _ hmod]
    exact (List.all_eq_true.1 hz1) _ (by rw [← hzc]; exact Array.getElem_mem_toList _)
  have hin : ∀ j, j < zs.length → s.l.length * Enc.sz α + j < cur.size := by
    intro j hj
    rw [hcs]
    have h1 : s.l.length * Enc.sz α + j < s.l.length * Enc.sz α + (hi - s.l.length) * Enc.sz α := by omega
    rw [← Nat.add_mul] at h1
    exact Nat.lt_of_lt_of_le h1 (Nat.mul_le_mul_right _ (by omega))
  have hst := run_storeCells_cells (P := P) g (s.l.length * Enc.sz α) zs 0 w (fun j hj => by
      simp only [Nat.add_zero]
      rw [Blk.cell (E := E) hg, Array.getElem?_eq_getElem (hin j hj)]; rfl) (fun j hj => Blk.frozen (E := E) hg _) hz1'
  simp only [Nat.add_zero] at hst
  have hrun : ∀ ty, (Builtin.clear_ #[T] ty #[.slice (some ⟨g, s.l.length * Enc.sz α, none⟩) (hi - s.l.length) (cap - s.l.length)]).run P w = .ok (.tuple #[]) (w.setCells g (s.l.length * Enc.sz α) zs) := by
    intro ty
    obtain ⟨m, hm9⟩ : ∃ m, hi - s.l.length = m + 1 := ⟨hi - s.l.length - 1, by omega⟩
    rw [hm9] at hzs ⊢
    simp [Builtin.clear_, run_underlying (slI_parts hT), run_zero hi' hzz, hzs, hst]
  refine Ex.of_run (v := .tuple #[]) (w' := w.setCells g (s.l.length * Enc.sz α) zs) ?_ ?_
  · unfold execOp
    simp only [ho, resolve, invoke, builtin, Sem.run_bind, Sem.run_pure, Result.andThen_ok, List.map_toArray, List.map_cons, List.map_nil, h.fr.ev hx, hx', hrun]
  · rw [hd]
    obtain ⟨cur', hg', hcs', hk'⟩ := setCells_row zs (s.l.length * Enc.sz α) w cur hg
    have h2 := h.sh.put (A' := .own E s) hr (setCells_chg (X := (Asn.own E s).fp) (by show s.v.ownBlock = some g; rw [hsv]; rfl) zs (s.l.length * Enc.sz α) w) ⟨⟨hown.1, .inr ⟨g, cap, cur', hsv, hb0, hg', hn, hm, hcs'.trans hcs, ?_⟩⟩, hlen, ?_⟩ (fun b hb => .inl hb) (fun b hb => .inr (.inl hb)) (h.sh.self _ (List.mem_of_getElem? hr))
    · have : L.set r (.own E s) = L := by
        obtain ⟨hlt, e9⟩ := List.getElem?_eq_some_iff.1 hr
        rw [← e9]; exact List.set_getElem_self hlt
      rw [this] at h2
      exact ⟨h.fr, h2⟩
    · rw [← htk]
      apply List.ext_getElem?
      intro k
      simp only [List.getElem?_take, Array.getElem?_toList]
      split
      · exact hk' k (by assumption)
      · rfl
    · intro q hq
      refine Enc.keep _ w _ (hinn q hq) fun b hb => ?_
      have hbg : b ≠ g := by
        rintro rfl
        exact (h.sh.self _ (List.mem_of_getElem? hr)) b (by show s.v.ownBlock = some b; rw [hsv]; rfl) ⟨q, hq, hb⟩
      have hlt : b < w.heap.size := Enc.lt _ w (hinn q hq) b hb
      exact (setCells_chg (X := fun b => b = g) rfl zs (s.l.length * Enc.sz α) w).same b hlt hbg
end
end Go.Proofs.YtmjkobhkkjgplaaGreatDoor
