/-
  Contracts of functions of this program and of the references, each walked once.
-/
import Derived.Test.YtfpaahkleienoaaU1
import Derived.Test.YtfpaahkleienoaaX33
namespace Go.Proofs.Ytfpaahkleienoaa
open Go.RowKit
set_option linter.unusedSimpArgs false
set_option linter.unusedVariables false


theorem putK_op (x : Ins) (k : Nat) (v : Int) : (putK x k v).op = x.op := by unfold putK; split; rfl; split <;> rfl
theorem set_putK {y x : Ins} {k : Nat} (v : Int) (hk : k < 3) : [y.a, y.b, y.c].set k v = [(putK y k v).a, (putK y k v).b, (putK y k v).c] := by
  rcases k with _ | _ | _ | k
  · rfl
  · rfl
  · rfl
  · omega
theorem name_r (op : Int) (W : World) : Rets Try.prog 56 [.int .i64 op] W (fun v w' => v = .tuple #[.string (nameB op), .string (kindsB op)] ∧ Sh0 W w' []) := by
  refine (name_any op W).mono fun e w' ⟨h1, h2⟩ => ⟨_, h1, rfl, ?_⟩
  subst h2
  exact Sh0.start W

set_option maxRecDepth 100000 in
set_option maxHeartbeats 1000000 in
theorem numbers1_c (x : Ins) (W : World) :
    Rets Try.prog 57 [.agg #[.int .i64 x.op, .int .i64 x.a, .int .i64 x.b, .int .i64 x.c]] W (fun v w' => ∃ s : Ls Int, v = s.v ∧ Sh0 W w' [.own 3 (⟨s.v, [x.a, x.b, x.c]⟩ : Ls Int)]) := by
 refine x_enter (N := 10) Try.func57 rfl Try.ntmps57 (Nat.le_of_ble_eq_true rfl) fun a1 hf1 => ?_
 have h1 : St 10 (fun _ => False) W a1 W [(0, .agg #[.int .i64 x.op, .int .i64 x.a, .int .i64 x.b, .int .i64 x.c])] [] := ⟨hf1.sub ⟨rfl, trivial⟩, Sh0.start W⟩
 clear hf1
 refine wp_seq_k fun K2 hK2 => wp_region_lit <| wl_ex (x_box (cs := [.int .i64 x.op, .int .i64 x.a, .int .i64 x.b, .int .i64 x.c]) h1 rfl rfl rfl rfl rfl) (wanted_none rfl _) ?_
 rintro a3 w3 ⟨b3, h3⟩; clear h1
 refine wms 1 h3 rfl fun a4 h4 => wpList_nil <| hK2 _ _ <| wp_seq_k fun K5 hK5 => wp_region_lit <| wv h4 (r_fieldB (r := 1) fl_32_1 rfl rfl rfl) rfl rfl fun a6 h6 => wv h6 (r_ldb (i := 0) ti_3 rfl rfl rfl rfl) rfl rfl fun a7 h7 => wv h7 (r_fieldB (r := 2) fl_32_2 rfl rfl rfl) rfl rfl fun a8 h8 => wv h8 (r_ldb (i := 0) ti_3 rfl rfl rfl rfl) rfl rfl fun a9 h9 => wv h9 (r_fieldB (r := 3) fl_32_3 rfl rfl rfl) rfl rfl fun a10 h10 => wv h10 (r_ldb (i := 0) ti_3 rfl rfl rfl rfl) rfl rfl fun a11 h11 => wl_ex (x_lit (n := 3) (cs := [.int .i64 x.a, .int .i64 x.b, .int .i64 x.c]) ([x.a, x.b, x.c] : List Int) h11 sl_23 ti_3 rfl rfl rfl (by decide) rfl (by kernel_rfl) rfl (fun q hq w h => Flat.inner _ _) (fun q hq b hb => (Flat.on _ _ hb).elim) rfl rfl) (wanted_none rfl _) ?_; clear h3 h4 h6 h7 h8 h9 h10
 rintro a12 w12 ⟨v12, h12⟩; clear h11
 refine wms 1 h12 rfl fun a13 h13 => wpList_nil <| hK5 _ _ <| wp_ret ?_; clear h12
 try simp only [Exit.then, Exit.inBlock]
 refine x_ret1 (fn := Try.f57) (t := 2) rfl h13 rfl ?_
 exact ⟨⟨v12, []⟩, rfl, (h13.sh.sel (L' := [.own 3 (⟨v12, [x.a, x.b, x.c]⟩ : Ls Int)]) [0] (by decide) ⟨rfl, trivial⟩)⟩

end Go.Proofs.Ytfpaahkleienoaa
