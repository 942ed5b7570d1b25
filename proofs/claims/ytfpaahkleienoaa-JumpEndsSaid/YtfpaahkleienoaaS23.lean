/-
  Rows that are cut; an order in a block, told by the place of its number. It imports nothing of the dump.
-/
import Derived.Test.YtfpaahkleienoaaS22
namespace Go.Proofs.Ytfpaahkleienoaa
open Go.RowKit
set_option linter.unusedSimpArgs false
set_option linter.unusedVariables false

section
variable {N : Nat} {K : Nat → Prop} {W w : World} {a : Act} {F : List (Nat × Value)} {L : List Asn} {α : Type} [Enc α] [Flat α]
theorem St.trunc (r : Nat) {E : TypeId} {s : Ls α} (h : St N K W a w F L) (hi : L[r]? = some (.own E s)) (j : Nat) (hj : j ≤ s.l.length) (h0 : 0 < s.l.length) : St N K W a w F (L.set r (.own E (⟨vtake s.v j, s.l.take j⟩ : Ls α))) := by
  obtain ⟨⟨h1, h2⟩, h3, h4⟩ := h.sh.ok _ (List.mem_of_getElem? hi)
  have ht : (s.l.take j).length = j := by rw [List.length_take]; omega
  rcases h2 with ⟨_, hn⟩ | ⟨g, cap, cur, hv, hb, hg, hc, hm, hs, he⟩
  · omega
  · have hv2 : vtake s.v j = .slice (some ⟨g, 0, none⟩) j cap := by rw [hv]; rfl
    have hle : j * Enc.sz α ≤ s.l.length * Enc.sz α := Nat.mul_le_mul_right _ hj
    refine ⟨h.fr, h.sh.put hi (Chg.refl _ _) ⟨⟨?_, .inr ⟨g, cap, cur, ?_, hb, hg, ?_, hm, hs, ?_⟩⟩, ?_, ?_⟩ ?_ (fun b hb => absurd hb Flat.noRd) (fun b _ hb => Flat.noRd hb)⟩
    · show (encL (s.l.take j)).length = (s.l.take j).length * _
      rw [encL_take, List.length_take, h1, ht]
      omega
    · show vtake s.v j = .slice _ (s.l.take j).length cap
      rw [hv2, ht]
    · show (s.l.take j).length ≤ cap
      omega
    · show cur.toList.take ((s.l.take j).length * _) = encL (s.l.take j)
      rw [ht, encL_take, ← he, List.take_take, Nat.min_eq_left hle]
    · show (s.l.take j).length ≤ _
      omega
    · intro i hi
      exact Flat.inner _ _
    · intro b hb
      left
      have hb' : (vtake s.v j).ownBlock = some b := hb
      rw [hv2] at hb'
      show s.v.ownBlock = some b
      rw [hv]
      exact hb'
end
/-- One of an order's numbers is put anew. -/
def putK (x : Ins) (k : Nat) (v : Int) : Ins := if k = 0 then { x with a := v } else if k = 1 then { x with b := v } else { x with c := v }
section
variable {P : Program} {o : Oper} {N : Nat} {K : Nat → Prop} {W w : World} {a : Act} {F : List (Nat × Value)} {L : List Asn}
theorem ix_Bk (x : Ins) (g k : Nat) (h : k < 3) : nth ([⟨.pointer (some ⟨g, 1, none⟩)⟩, ⟨.pointer (some ⟨g, 2, none⟩)⟩, ⟨.pointer (some ⟨g, 3, none⟩)⟩] : List RV) k = ⟨.pointer (some ⟨g, k + 1, none⟩)⟩ := by
  rcases k with _ | _ | _ | k
  · rfl
  · rfl
  · rfl
  · omega
theorem r_ldBk {T : TypeId} {n by_ : Nat} {z : List Value} {y : Operand} {i g k : Nat} {E : TypeId} {x : Ins} (hT : tyI P T = some (false, n, by_, z)) (ho : o.op = .load T y) (hx : ev F y = some (.pointer (some ⟨g, k + 1, none⟩))) (hi : L[i]? = some (.blk g E [.int .i64 x.op, .int .i64 x.a, .int .i64 x.b, .int .i64 x.c])) (hk : k < 3) :
    Rn P o N K W F L (.int .i64 (nth [x.a, x.b, x.c] k)) := by
  rcases k with _ | _ | _ | k
  · exact r_ldb hT ho hx hi rfl
  · exact r_ldb hT ho hx hi rfl
  · exact r_ldb hT ho hx hi rfl
  · omega
theorem x_stBk {T : TypeId} {by_ : Nat} {z : List Value} {y u : Operand} {i g k : Nat} {E : TypeId} {x : Ins} {v : Int} (h : St N K W a w F L) (hT : tyI P T = some (false, 1, by_, z)) (ho : o.op = .store T y u) (hd : o.dst = none) (hx : ev F y = some (.pointer (some ⟨g, k + 1, none⟩))) (hu : ev F u = some (.int .i64 v))
    (hi : L[i]? = some (.blk g E [.int .i64 x.op, .int .i64 x.a, .int .i64 x.b, .int .i64 x.c])) (hk : k < 3) :
    Ex P o a w (fun a' w' => St N K W a' w' F (L.set i (.blk g E [.int .i64 (putK x k v).op, .int .i64 (putK x k v).a, .int .i64 (putK x k v).b, .int .i64 (putK x k v).c]))) := by
  rcases k with _ | _ | _ | k
  · exact x_stb (vs := [.int .i64 v]) h hT ho hd hx hu hi rfl rfl (allOne_cons rfl allOne_nil) (Nat.le_of_ble_eq_true rfl) rfl
  · exact x_stb (vs := [.int .i64 v]) h hT ho hd hx hu hi rfl rfl (allOne_cons rfl allOne_nil) (Nat.le_of_ble_eq_true rfl) rfl
  · exact x_stb (vs := [.int .i64 v]) h hT ho hd hx hu hi rfl rfl (allOne_cons rfl allOne_nil) (Nat.le_of_ble_eq_true rfl) rfl
  · omega
end
end Go.Proofs.Ytfpaahkleienoaa
