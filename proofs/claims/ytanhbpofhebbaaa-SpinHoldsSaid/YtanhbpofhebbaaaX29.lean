/-
  Contracts of functions of this program and of the references, each walked once.
-/
import Derived.Test.YtanhbpofhebbaaaX23
namespace Go.Proofs.Ytanhbpofhebbaaa
open Go.RowKit
set_option linter.unusedSimpArgs false
set_option linter.unusedVariables false

set_option maxRecDepth 100000 in
set_option maxHeartbeats 1000000 in
theorem make0_c (code : Ls (Ls Ins)) (words : Ls Int) (Lk R : Nat) (W : World) (hcode : code.At W) (hwords : words.At W) (hok : OkPg (pgN code words Lk R)) :
    Rets Try.prog 24 [.agg #[code.v, words.v, .int .i64 ((Lk : Nat) : Int), .int .i64 ((R : Nat) : Int)], .bool false] W (fun v w' => ∃ (g : Nat) (full : Bool) (sv kv hv bv : Value) (ends : Ls OutL), v = .pointer (some ⟨g, 0, none⟩) ∧ (full = false → Sorted_ (ends.l.map OutL.out) ∧ ∀ o, o ∈ ends.l.map OutL.out ↔ Outs (pgN code words Lk R) 0 o) ∧ ends.l.length ≤ 70000 ∧ (∀ o ∈ ends.l, ∀ b, Enc.on o b → W.heap.size ≤ b) ∧ Sh0 W w' [.blk g 49 [sv, kv, hv, bv, ends.v, .bool full], .own 56 ends]) := by
 refine x_enter (N := 10) Try.func24 rfl Try.ntmps24 (Nat.le_of_ble_eq_true rfl) fun a1 hf1 => ?_
 have h1 : St 10 (fun _ => False) W a1 W [(0, .agg #[code.v, words.v, .int .i64 ((Lk : Nat) : Int), .int .i64 ((R : Nat) : Int)]), (1, .bool false)] [.at_ code, .at_ words] := ⟨hf1.sub ⟨rfl, rfl, trivial⟩, Sh0.ext2 hcode hwords⟩
 clear hf1
 refine wp_seq_k fun K2 hK2 => wp_region_lit <| wl_ex (x_box (cs := [code.v, words.v, .int .i64 ((Lk : Nat) : Int), .int .i64 ((R : Nat) : Int)]) h1 rfl rfl rfl rfl rfl) (wanted_none rfl _) ?_
 rintro a3 w3 ⟨b3, h3⟩; clear h1
 refine wms 1 h3 rfl fun a4 h4 => wpList_nil <| hK2 _ _ <| wp_seq_k fun K5 hK5 => wp_seq_k fun K6 hK6 => wp_region_lit <| wms 1 h4 rfl fun a7 h7 => wpList_nil <| hK6 _ _ <| x_condF h7 rfl rfl <| wp_skip <| hK5 _ _ <| wp_seq_k fun K8 hK8 => wp_region_lit ?_; clear h3 h4
 refine wv h7 (r_ldbw (i := 0) (vs := [code.v, words.v, .int .i64 ((Lk : Nat) : Int), .int .i64 ((R : Nat) : Int)]) ti_28 rfl rfl rfl rfl rfl) rfl rfl fun a9 h9 => wl_ex (x_call h9 bd_67 rfl rfl rfl rfl rfl (by_c code words Lk R 0 _ (h9.sh.at 1 rfl) (h9.sh.at 2 rfl) hok)) (wanted_none rfl _) ?_; clear h7
 rintro a10 w10 ⟨_, ⟨g10, fu10, sv10, kv10, hv10, bv10, en10, rfl, hby10, hel10, hnw10, hs10⟩, hf10⟩
 have hsz10 := h9.sh.chg.size
 have h10 := (⟨hf10, h9.sh.call hs10 (by intro A hA b hb; simp only [List.mem_cons, List.not_mem_nil, or_false] at hA; rcases hA with rfl | rfl; exact (hb : False).elim; exact .inl (by obtain ⟨i9, hi9, hb9⟩ := hb; exact hnw10 _ (nth_mem _ _ hi9) b hb9))⟩ : St 10 (fun _ => False) W a10 w10 _ _)
 clear hf10 hs10
 clear h9
 refine wms 1 h10 rfl fun a11 h11 => wpList_nil <| hK8 _ _ <| wp_ret ?_; clear h10
 try simp only [Exit.then, Exit.inBlock]
 refine x_ret1 (fn := Try.f24) (t := 4) rfl h11 rfl ?_
 exact ⟨g10, fu10, _, _, _, _, en10, rfl, hby10, hel10, (fun o ho b hb => Nat.le_trans hsz10 (hnw10 o ho b hb)), (h11.sh.sel (L' := [.blk g10 49 [sv10, kv10, hv10, bv10, en10.v, .bool fu10], .own 56 en10]) [0, 1] (by decide) ⟨rfl, rfl, trivial⟩)⟩

set_option maxRecDepth 100000 in
set_option maxHeartbeats 1000000 in
theorem make1_c (code : Ls (Ls Ins)) (words : Ls Int) (Lk R : Nat) (W : World) (hcode : code.At W) (hwords : words.At W) (hok : OkPg (pgN code words Lk R)) :
    Rets Try.prog 24 [.agg #[code.v, words.v, .int .i64 ((Lk : Nat) : Int), .int .i64 ((R : Nat) : Int)], .bool true] W (fun v w' => ∃ (g : Nat) (full : Bool) (sv kv hv bv : Value) (ends : Ls OutL), v = .pointer (some ⟨g, 0, none⟩) ∧ (full = false → Sorted_ (ends.l.map OutL.out) ∧ ∀ o, o ∈ ends.l.map OutL.out ↔ Outs (pgN code words Lk R) 1 o) ∧ ends.l.length ≤ 70000 ∧ (∀ o ∈ ends.l, ∀ b, Enc.on o b → W.heap.size ≤ b) ∧ Sh0 W w' [.blk g 49 [sv, kv, hv, bv, ends.v, .bool full], .own 56 ends]) := by
 refine x_enter (N := 10) Try.func24 rfl Try.ntmps24 (Nat.le_of_ble_eq_true rfl) fun a1 hf1 => ?_
 have h1 : St 10 (fun _ => False) W a1 W [(0, .agg #[code.v, words.v, .int .i64 ((Lk : Nat) : Int), .int .i64 ((R : Nat) : Int)]), (1, .bool true)] [.at_ code, .at_ words] := ⟨hf1.sub ⟨rfl, rfl, trivial⟩, Sh0.ext2 hcode hwords⟩
 clear hf1
 refine wp_seq_k fun K2 hK2 => wp_region_lit <| wl_ex (x_box (cs := [code.v, words.v, .int .i64 ((Lk : Nat) : Int), .int .i64 ((R : Nat) : Int)]) h1 rfl rfl rfl rfl rfl) (wanted_none rfl _) ?_
 rintro a3 w3 ⟨b3, h3⟩; clear h1
 refine wms 1 h3 rfl fun a4 h4 => wpList_nil <| hK2 _ _ <| wp_seq_k fun K5 hK5 => wp_seq_k fun K6 hK6 => wp_region_lit <| wms 1 h4 rfl fun a7 h7 => wpList_nil <| hK6 _ _ <| x_condT h7 rfl rfl <| wp_seq_k fun K8 hK8 => wp_region_lit <| wv h7 (r_ldbw (i := 0) (vs := [code.v, words.v, .int .i64 ((Lk : Nat) : Int), .int .i64 ((R : Nat) : Int)]) ti_28 rfl rfl rfl rfl rfl) rfl rfl fun a9 h9 => wl_ex (x_call h9 bd_67 rfl rfl rfl rfl rfl (by_c code words Lk R 1 _ (h9.sh.at 1 rfl) (h9.sh.at 2 rfl) hok)) (wanted_none rfl _) ?_; clear h3 h4 h7
 rintro a10 w10 ⟨_, ⟨g10, fu10, sv10, kv10, hv10, bv10, en10, rfl, hby10, hel10, hnw10, hs10⟩, hf10⟩
 have hsz10 := h9.sh.chg.size
 have h10 := (⟨hf10, h9.sh.call hs10 (by intro A hA b hb; simp only [List.mem_cons, List.not_mem_nil, or_false] at hA; rcases hA with rfl | rfl; exact (hb : False).elim; exact .inl (by obtain ⟨i9, hi9, hb9⟩ := hb; exact hnw10 _ (nth_mem _ _ hi9) b hb9))⟩ : St 10 (fun _ => False) W a10 w10 _ _)
 clear hf10 hs10
 clear h9
 refine wms 1 h10 rfl fun a11 h11 => wpList_nil <| hK8 _ _ <| wp_ret ?_; clear h10
 try simp only [Exit.then, Exit.inBlock]
 refine x_ret1 (fn := Try.f24) (t := 4) rfl h11 rfl ?_
 exact ⟨g10, fu10, _, _, _, _, en10, rfl, hby10, hel10, (fun o ho b hb => Nat.le_trans hsz10 (hnw10 o ho b hb)), (h11.sh.sel (L' := [.blk g10 49 [sv10, kv10, hv10, bv10, en10.v, .bool fu10], .own 56 en10]) [0, 1] (by decide) ⟨rfl, rfl, trivial⟩)⟩

theorem makeB_c (code : Ls (Ls Ins)) (words : Ls Int) (Lk R : Nat) (b : Bool) (W : World) (hcode : code.At W) (hwords : words.At W) (hok : OkPg (pgN code words Lk R)) : Rets Try.prog 24 [.agg #[code.v, words.v, .int .i64 (Lk : Int), .int .i64 (R : Int)], .bool b] W (fun v w' => ∃ (g : Nat) (full : Bool) (sv kv hv bv : Value) (ends : Ls OutL), v = .pointer (some ⟨g, 0, none⟩) ∧ (full = false → Sorted_ (ends.l.map OutL.out) ∧ ∀ o, o ∈ ends.l.map OutL.out ↔ Outs (pgN code words Lk R) (bit b) o) ∧ ends.l.length ≤ 70000 ∧ (∀ o ∈ ends.l, ∀ b, Enc.on o b → W.heap.size ≤ b) ∧ Sh0 W w' [.blk g 49 [sv, kv, hv, bv, ends.v, .bool full], .own 56 ends]) := by
  cases b with
  | false => exact make0_c code words Lk R W hcode hwords hok
  | true => exact make1_c code words Lk R W hcode hwords hok
end Go.Proofs.Ytanhbpofhebbaaa
