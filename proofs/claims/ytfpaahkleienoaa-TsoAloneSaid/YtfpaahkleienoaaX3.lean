/-
  Contracts of functions of this program and of the references, each walked once.
-/
import Derived.Test.YtfpaahkleienoaaX2
namespace Go.Proofs.Ytfpaahkleienoaa
open Go.RowKit
set_option linter.unusedSimpArgs false
set_option linter.unusedVariables false


theorem nth_replicate {α : Type} [Inhabited α] (n : Nat) (x : α) (i : Nat) (h : i < n) : nth (List.replicate n x) i = x := by simp [nth, h]
set_option maxRecDepth 10000 in
set_option maxHeartbeats 1000000 in
theorem cloneI_c (x : Ls Int) (W : World) (hx : x.At W) (hl : x.l.length ≤ 100000) :
    Rets Try.prog 47 [x.v] W (fun v w' => ∃ s : Ls Int, v = s.v ∧ Sh0 W w' [.own 3 (⟨s.v, x.l⟩ : Ls Int)]) := by
 refine x_enter (N := 8) Try.func47 rfl Try.ntmps47 (Nat.le_of_ble_eq_true rfl) fun a1 hf1 => ?_
 have h1 : St 8 (fun _ => False) W a1 W [(0, x.v)] [.at_ x] := ⟨hf1.sub ⟨rfl, trivial⟩, Sh0.ext1 hx⟩
 clear hf1
 refine wp_seq_k fun K2 hK2 => wp_region_lit <| wms 1 h1 rfl fun a3 h3 => wpList_nil <| hK2 _ _ <| wp_seq_k fun K4 hK4 => wp_seq_k fun K5 hK5 => wp_region_lit <| wms 1 h3 rfl fun a6 h6 => wv h6 (r_eqnil (s := x) sl_23 rfl rfl rfl (fun w h => (h.at 0 rfl))) rfl rfl fun a7 h7 => wpList_nil <| hK5 _ _ <| x_cond h7 rfl (fun hb8 => ?_) (fun hb8 => ?_); clear h1 h3 h6
 ·skip
  refine wp_seq_k fun K9 hK9 => wp_region_lit <| wms 1 h7 rfl fun a10 h10 => wpList_nil <| hK9 _ _ <| wp_ret ?_; clear h7
  try simp only [Exit.then, Exit.inBlock]
  refine x_ret1 (fn := Try.f47) (t := 2) rfl h10 rfl <| ⟨⟨.slice none 0 0, []⟩, rfl, ?_⟩
  rw [nilB_nil hx (by assumption)]
  exact (h10.sh.nil (α := Int) 3).sel (L' := [_]) [0] (by decide) ⟨rfl, trivial⟩
 refine wp_skip <| hK4 _ _ <| wp_seq_k fun K11 hK11 => wp_region_lit <| wl_ex (x_lit0 (α := Int) h7 sl_23 ti_3 rfl rfl rfl) (wanted_none rfl _) ?_
 rintro a12 w12 ⟨v12, h12⟩; clear h7
 refine wms 1 h12 rfl fun a13 h13 => wl_ex (x_app (r := 0) (rm := 1) (s := (⟨v12, []⟩ : Ls Int)) (m := x) h13 sl_23 ti_3 rfl rfl rfl rfl rfl rfl rfl (fun w h => (h.at 1 rfl)) (fun b hb => .inr hb) (fun q hq b hb => .inr ⟨q, hq, hb⟩) rfl rfl rfl inferInstance (show (([]).length + x.l.length) * 8 ≤ 140737488355328 ∧ ([]).length + x.l.length ≤ 140737488355328 from (by first | omega | (simp only [lens9]; omega))) rfl rfl) (wanted_none rfl _) ?_; clear h12
 rintro a14 w14 ⟨v14, h14⟩; clear h13
 refine wms 1 h14 rfl fun a15 h15 => wpList_nil <| hK11 _ _ <| wp_ret ?_; clear h14
 try simp only [Exit.then, Exit.inBlock]
 refine x_ret1 (fn := Try.f47) (t := 2) rfl h15 rfl <| ⟨⟨v14, []⟩, rfl, ?_⟩
 exact (h15.sh.sel (L' := [.own 3 (⟨v14, x.l⟩ : Ls Int)]) [0] (by decide) ⟨rfl, trivial⟩)

end Go.Proofs.Ytfpaahkleienoaa
