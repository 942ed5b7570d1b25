/-
  An order with its registers given. The program.
-/
import Derived.Test.YtfpaahkleienoaaX77
import Derived.Test.YtfpaahkleienoaaS30
namespace Go.Proofs.Ytfpaahkleienoaa
open Go.RowKit
set_option linter.unusedSimpArgs false
set_option linter.unusedVariables false

theorem mz_80 : MapTZ Try.prog 80 3 3 := ⟨by kernel_rfl, by kernel_rfl, fun w => by kernel_rfl⟩

def ldKF (cl : List Int) (wf : Int → Int) (x : Ins) (k : Nat) : List Ins := if nth cl (nth (rdG x) k).toNat < 0 then [(⟨8, ((6 + k : Nat) : Int), wf (nth (rdG x) k), 0⟩ : Ins)] else []
def ldF (cl : List Int) (wf : Int → Int) (x : Ins) (m : Nat) : List Ins := (List.range m).flatMap (ldKF cl wf x)
theorem ldF_succ (cl : List Int) (wf : Int → Int) (x : Ins) (m : Nat) : ldF cl wf x (m + 1) = ldF cl wf x m ++ ldKF cl wf x m := by simp [ldF, List.range_succ]
/-- What an order becomes, a register's word being told by a function. -/
def paintF (cl : List Int) (wf : Int → Int) (x : Ins) : List Ins := ldF cl wf x (rdG x).length ++ ((ptS (plcF cl x (rdG x).length) (colr cl (wrG x) 6) x (kindsB x.op).size).1 :: (if 0 ≤ wrG x ∧ nth cl (wrG x).toNat < 0 then [⟨9, wf (wrG x), 6, 0⟩] else []))
theorem paint_same {cl wd : List Int} {wf : Int → Int} {x : Ins} (h : ∀ r : Int, (r = wrG x ∧ 0 ≤ r ∨ r ∈ rdG x) → nth cl r.toNat < 0 → wf r = nth wd r.toNat) : paintF cl wf x = paintL cl wd x := by
  have e : ∀ m, m ≤ (rdG x).length → ldF cl wf x m = ldL cl wd x m := by
    intro m
    induction m with
    | zero => intro _; rfl
    | succ m ih =>
      intro hm
      rw [ldF_succ, ldL_succ, ih (by omega)]
      congr 1
      unfold ldKF ldK
      split
      · rename_i hc
        rw [h _ (.inr (nth_mem _ _ (by omega))) hc]
      · rfl
  unfold paintF paintL
  rw [e _ (Nat.le_refl _)]
  congr 2
  split
  · rename_i hc
    rw [h _ (.inl ⟨rfl, hc.1⟩) hc.2]
  · rfl
def inL (cl : List Int) (x : Ins) (m : Nat) : List (Int × Int) := (List.range m).map fun (j : Nat) => (((j : Nat) : Int), colr cl (nth (rdG x) j) ((6 + j : Nat) : Int))
theorem inL_succ (cl : List Int) (x : Ins) (m : Nat) : inL cl x (m + 1) = inL cl x m ++ [((m : Int), colr cl (nth (rdG x) m) ((6 + m : Nat) : Int))] := by simp [inL, List.range_succ]
theorem inL_keys (cl : List Int) (x : Ins) (m : Nat) : (inL cl x m).map (·.1) = (List.range m).map (fun (j : Nat) => ((j : Nat) : Int)) := by simp [inL, Function.comp_def]
theorem inL_none {cl : List Int} {x : Ins} {m : Nat} {il : List (Int × Int)} (h : il = inL cl x m) : getZ (m : Int) il = none := by
  rw [h, getZ_none, inL_keys]
  intro hc
  obtain ⟨j, hj, e⟩ := List.mem_map.1 hc
  have := List.mem_range.1 hj
  omega
theorem inL_nodup (cl : List Int) (x : Ins) : ∀ m, ((inL cl x m).map (·.1)).Nodup
  | 0 => List.nodup_nil
  | m + 1 => by
    rw [inL_succ, List.map_append, List.nodup_append]
    refine ⟨inL_nodup cl x m, by simp, fun a ha b hb e => ?_⟩
    rw [inL_keys] at ha
    obtain ⟨j, hj, rfl⟩ := List.mem_map.1 ha
    have := List.mem_range.1 hj
    simp at hb
    omega
theorem inL_get {cl : List Int} {x : Ins} {m : Nat} {il : List (Int × Int)} (h : il = inL cl x m) : (fun j : Nat => (getZ (j : Int) il).getD 0) = plcF cl x m := by
  funext j
  unfold plcF
  by_cases hj : j < m
  · rw [if_pos hj, (getZ_some (v := colr cl (nth (rdG x) j) ((6 + j : Nat) : Int)) (by rw [h]; exact inL_nodup cl x m)).2 (by rw [h]; exact List.mem_map.2 ⟨j, List.mem_range.2 hj, rfl⟩)]; rfl
  · rw [if_neg hj, getZ_none.2]; rfl
    rw [h, inL_keys]
    intro hc
    obtain ⟨q, hq, e⟩ := List.mem_map.1 hc
    have := List.mem_range.1 hq
    omega
section
variable {cl : List Int} {x y : Ins} {k n k2 : Nat} {ol : List Ins} {g : Nat → Int} {il : List (Int × Int)} {wf : Int → Int}
theorem ldF_no (h : ol = ldF cl wf x k) (hc : ¬ nth cl (nth (rdG x) k).toNat < 0) : ol = ldF cl wf x (k + 1) := by rw [ldF_succ, ldKF, if_neg hc, List.append_nil]; exact h
theorem ldF_yes (h : ol = ldF cl wf x k) (hc : nth cl (nth (rdG x) k).toNat < 0) : ol ++ [(⟨8, ((6 + k : Nat) : Int), wf (nth (rdG x) k), 0⟩ : Ins)] = ldF cl wf x (k + 1) := by rw [ldF_succ, ldKF, if_pos hc, h]
theorem k13 {x : Ins} (h : x.op = 13) : kAt (kindsB x.op) 0 ≠ 114 := by rw [h]; decide +kernel
theorem pf_w (h : ptS g (colr cl (wrG x) 6) x n = (y, k2)) (hk : kAt (kindsB x.op) n = 114) (h0 : n = 0) (h1 : 0 ≤ wrG x) (h2 : y.op ≠ 13) : ptS g (colr cl (wrG x) 6) x (n + 1) = (putK y n (colr cl (nth [y.a, y.b, y.c] n) 6), k2) := by
  subst h0
  have e : x = y := congrArg Prod.fst h
  subst e
  have ew : wrG x = x.a := by
    unfold wrG at h1 ⊢
    rw [if_neg h2] at h1 ⊢
    split
    · rfl
    · rename_i h9; rw [if_neg h9] at h1; omega
  rw [ptS, if_pos hk, if_pos ⟨rfl, h1⟩, h, ew]
  rfl
theorem pf_reg (h : ptS g (colr cl (wrG x) 6) x n = (y, k2)) (h0 : n = 0) (h1 : 0 ≤ wrG x) (h2 : y.op ≠ 13) : nth [y.a, y.b, y.c] n = wrG x := by
  subst h0
  have e : x = y := congrArg Prod.fst h
  subst e
  unfold wrG at h1 ⊢
  rw [if_neg h2] at h1 ⊢
  split
  · rfl
  · rename_i h9; rw [if_neg h9] at h1; omega
theorem pf_r (h : ptS g (colr cl (wrG x) 6) x n = (y, k2)) (hk : kAt (kindsB x.op) n = 114) (h1 : n ≠ 0 ∨ ¬ 0 ≤ wrG x ∨ y.op = 13) : ptS g (colr cl (wrG x) 6) x (n + 1) = (putK y n (g k2), k2 + 1) := by
  refine pt_r h hk ?_
  rintro ⟨h2, h3⟩
  rcases h1 with h1 | h1 | h1
  · exact h1 h2
  · exact h1 h3
  · subst h2
    have e : x = y := congrArg Prod.fst h
    subst e
    exact k13 h1 hk
theorem pf_ins (hi : il = inL cl x k) (hk : k = (rdG x).length) (h : ptS (fun j => (getZ (j : Int) il).getD 0) (colr cl (wrG x) 6) x n = (y, k2)) (hn : n = (kindsB x.op).size) : y = (ptS (plcF cl x (rdG x).length) (colr cl (wrG x) 6) x (kindsB x.op).size).1 := by
  rw [inL_get hi, hk, hn] at h
  rw [h]
theorem paintF_1 (hi : il = inL cl x k) (hk : k = (rdG x).length) (h : ptS (fun j => (getZ (j : Int) il).getD 0) (colr cl (wrG x) 6) x n = (y, k2)) (hn : n = (kindsB x.op).size) (hol : ol = ldF cl wf x k) (h1 : 0 ≤ wrG x) (h2 : nth cl (wrG x).toNat < 0) : (ol ++ [y]) ++ [(⟨9, wf (wrG x), 6, 0⟩ : Ins)] = paintF cl wf x := by
  rw [paintF, if_pos ⟨h1, h2⟩, ← pf_ins hi hk h hn, hol, hk, List.append_assoc]; rfl
theorem paintF_2 (hi : il = inL cl x k) (hk : k = (rdG x).length) (h : ptS (fun j => (getZ (j : Int) il).getD 0) (colr cl (wrG x) 6) x n = (y, k2)) (hn : n = (kindsB x.op).size) (hol : ol = ldF cl wf x k) (h1 : ¬ (0 ≤ wrG x ∧ nth cl (wrG x).toNat < 0)) : ol ++ [y] = paintF cl wf x := by
  rw [paintF, if_neg h1, ← pf_ins hi hk h hn, hol, hk]
end

set_option maxRecDepth 100000 in
set_option maxHeartbeats 1000000 in
theorem reg_c (g : Nat) (cl : Ls Int) (p : Option Nat) (r d : Int) (W : World) (hB : Blk W g 85 #[cl.v, .map p]) (hcl : cl.At W) (hr : 0 ≤ r ∧ r < (cl.l.length : Int)) :
    Rets Try.prog 106 [.pointer (some ⟨g, 0, none⟩), .int .i64 r, .int .i64 d] W (fun v w' => v = .int .i64 (colr cl.l r d) ∧ Sh0 W w' []) := by
 refine x_enter (N := 19) Try.func106 rfl Try.ntmps106 (Nat.le_of_ble_eq_true rfl) fun a1 hf1 => ?_
 have h1 : St 19 (fun _ => False) W a1 W [(0, .pointer (some ⟨g, 0, none⟩)), (1, .int .i64 r), (2, .int .i64 d)] [.rblk g 85 [cl.v, .map p], .at_ cl] := ⟨hf1.sub ⟨rfl, rfl, rfl, trivial⟩, Sh0.ext (by intro A hA; simp only [List.mem_cons, List.not_mem_nil, or_false] at hA; rcases hA with rfl | rfl; exact hB; exact hcl) (by intro A hA b hb; simp only [List.mem_cons, List.not_mem_nil, or_false] at hA; rcases hA with rfl | rfl <;> exact hb)⟩
 clear hf1
 refine wp_seq_k fun K2 hK2 => wp_region_lit <| wms 1 h1 rfl fun a3 h3 => wpList_nil <| hK2 _ _ <| wp_seq_k fun K4 hK4 => wp_seq_k fun K5 hK5 => wp_region_lit <| wms 1 h3 rfl fun a6 h6 => wv h6 (r_nil rfl rfl) rfl rfl fun a7 h7 => wv h7 (r_fieldB (r := 0) fl_85_0 rfl rfl rfl) rfl rfl fun a8 h8 => wv h8 (r_ldbR ti_23 rfl rfl (fun w h => h.rblk 0 rfl) rfl) rfl rfl fun a9 h9 => wms 1 h9 rfl fun a10 h10 => ?_; clear h1 h3 h6 h7 h8 h9
 have hl11 : cl.l.length ≤ 140737488355328 := (h10.sh.at 1 rfl).len
 refine wv h10 (r_ixI (s := cl) (q := r) sl_23 ti_3 rfl rfl rfl (fun w h => (h.at 1 rfl)) (show 0 ≤ r ∧ r < cl.l.length from (by omega))) rfl rfl fun a12 h12 => wv h12 (r_lde (s := cl) (i := r.toNat) (v := .int .i64 (nth cl.l r.toNat)) ti_3 rfl rfl rfl (fun w h => (h.at 1 rfl)) (show r.toNat < cl.l.length from (by omega)) (Nat.le_of_ble_eq_true rfl) rfl) rfl rfl fun a13 h13 => wms 1 h13 rfl fun a14 h14 => wpList_nil <| hK5 _ _ <| wp_seq_k fun K15 hK15 => wp_region_lit <| wms 1 h14 rfl fun a16 h16 => wv h16 (r_geqI (p := nth cl.l r.toNat) (q := 0) rfl rfl rfl) rfl rfl fun a17 h17 => wpList_nil <| hK15 _ _ <| x_cond h17 rfl (fun hb18 => ?_) (fun hb18 => ?_); clear h10 h12 h13 h14 h16
 ·have hp18 : 0 ≤ nth cl.l r.toNat := of_decide_eq_true hb18
  refine wp_seq_k fun K19 hK19 => wp_region_lit <| wms 2 h17 rfl fun a20 h20 => wpList_nil <| hK19 _ _ <| wp_ret ?_; clear h17
  try simp only [Exit.then, Exit.inBlock]
  refine x_ret1 (fn := Try.f106) (t := 6) rfl h20 rfl <| ⟨?_, (h20.sh.sel [] (by decide) trivial)⟩
  unfold colr
  first | rw [if_neg (by omega)] | rw [if_pos (by omega)]
 have hp18 : ¬ (0 ≤ nth cl.l r.toNat) := of_decide_eq_false hb18
 refine wp_skip <| hK4 _ _ <| wp_seq_k fun K21 hK21 => wp_region_lit <| wms 2 h17 rfl fun a22 h22 => wpList_nil <| hK21 _ _ <| wp_ret ?_; clear h17
 try simp only [Exit.then, Exit.inBlock]
 refine x_ret1 (fn := Try.f106) (t := 6) rfl h22 rfl <| ⟨?_, (h22.sh.sel [] (by decide) trivial)⟩
 unfold colr
 first | rw [if_neg (by omega)] | rw [if_pos (by omega)]

set_option maxRecDepth 100000 in
set_option maxHeartbeats 8000000 in
theorem pbecome_c (g : Nat) (cl : Ls Int) (p : Option Nat) (ml : List (Int × Int)) (n0 : Int) (x : Ins) (W : World) (hB : Blk W g 85 #[cl.v, .map p]) (hcl : cl.At W) (hM : (Asn.ro [.mapO p ml]).ok W) (hop : 1 ≤ x.op ∧ x.op ≤ 18) (hopa : x.op ≤ 8 ∨ x.op = 10 → 0 ≤ x.a) (hrd : ∀ j, j < (rdG x).length → 0 ≤ nth (rdG x) j ∧ nth (rdG x) j < (cl.l.length : Int)) (hwr : wrG x < (cl.l.length : Int)) :
    Rets Try.prog 55 [.pointer (some ⟨g, 0, none⟩), .int .i64 n0, .agg #[.int .i64 x.op, .int .i64 x.a, .int .i64 x.b, .int .i64 x.c]] W (fun v w' => ∃ s : Ls Ins, v = s.v ∧ Sh0 W w' [.own 32 (⟨s.v, paintF cl.l (fun r : Int => (getZ r ml).getD 0) x⟩ : Ls Ins)]) := by
 refine x_enter (N := 134) Try.func55 rfl Try.ntmps55 (Nat.le_of_ble_eq_true rfl) fun a1 hf1 => ?_
 have h1 : St 134 (fun _ => False) W a1 W [(0, .pointer (some ⟨g, 0, none⟩)), (1, .int .i64 n0), (2, .agg #[.int .i64 x.op, .int .i64 x.a, .int .i64 x.b, .int .i64 x.c])] [.rblk g 85 [cl.v, .map p], .at_ cl, .ro [.mapO p ml]] := ⟨hf1.sub ⟨rfl, rfl, rfl, trivial⟩, Sh0.ext (by intro A hA; simp only [List.mem_cons, List.not_mem_nil, or_false] at hA; rcases hA with rfl | rfl | rfl; exact hB; exact hcl; exact hM) (by intro A hA b hb; simp only [List.mem_cons, List.not_mem_nil, or_false] at hA; rcases hA with rfl | rfl | rfl <;> exact hb)⟩
 clear hf1
 refine wp_seq_k fun K2 hK2 => wp_region_lit <| wl_ex (x_box (cs := [.int .i64 x.op, .int .i64 x.a, .int .i64 x.b, .int .i64 x.c]) h1 rfl rfl rfl rfl rfl) (wanted_none rfl _) ?_
 rintro a3 w3 ⟨b3, h3⟩; clear h1
 refine wms 1 h3 rfl fun a4 h4 => wpList_nil <| hK2 _ _ <| wp_seq_k fun K5 hK5 => wp_region_lit <| wms 1 h4 rfl fun a6 h6 => wpList_nil <| hK5 _ _ <| wp_seq_k fun K7 hK7 => ?_; clear h3 h4
 have h8 : St 134 (fun _ => False) W a6 w3 [(0, .pointer (some ⟨g, 0, none⟩)), (1, .int .i64 n0), (2, .agg #[.int .i64 x.op, .int .i64 x.a, .int .i64 x.b, .int .i64 x.c]), (5, .pointer (some ⟨b3, 0, none⟩)), (6, (.slice none 0 0)), (7, (.slice none 0 0))] [.blk b3 32 [.int .i64 x.op, .int .i64 x.a, .int .i64 x.b, .int .i64 x.c], .rblk g 85 [cl.v, .map p], .at_ cl, .ro [.mapO p ml]] := h6.nrm ⟨rfl, rfl, rfl, rfl, rfl, rfl, trivial⟩ [0, 1, 2, 3] (by decide) ⟨rfl, rfl, rfl, rfl, trivial⟩
 clear h6
 refine x_any ((fun Φ Ψ S a w => (S 1 = false ∧ S 3 = false ∧ FrI 134 S Φ Ψ a ∧ Sh (fun _ => False) W w [.blk b3 32 [.int .i64 x.op, .int .i64 x.a, .int .i64 x.b, .int .i64 x.c], .rblk g 85 [cl.v, .map p], .at_ cl, .ro [.mapO p ml]]) ∨ (S 1 = true ∧ S 3 = false ∧ ∃ (s7001 : Ls Int), FrI 134 S Φ (Ψ ++ [(1, 18, s7001.v)]) a ∧ Sh (fun _ => False) W w [.own 3 (⟨s7001.v, rdG x⟩ : Ls Int), .blk b3 32 [.int .i64 x.op, .int .i64 x.a, .int .i64 x.b, .int .i64 x.c], .rblk g 85 [cl.v, .map p], .at_ cl, .ro [.mapO p ml]]) ∨ (S 1 = true ∧ S 3 = true ∧ ∃ (s7001 : Ls Int), FrI 134 S Φ (Ψ ++ [(1, 18, s7001.v), (3, 20, .int .i64 (wrG x)), (4, 8, s7001.v), (5, 9, .int .i64 (wrG x))]) a ∧ Sh (fun _ => False) W w [.own 3 (⟨s7001.v, rdG x⟩ : Ls Int), .blk b3 32 [.int .i64 x.op, .int .i64 x.a, .int .i64 x.b, .int .i64 x.c], .rblk g 85 [cl.v, .map p], .at_ cl, .ro [.mapO p ml]])) [(0, .pointer (some ⟨g, 0, none⟩)), (1, .int .i64 n0), (2, .agg #[.int .i64 x.op, .int .i64 x.a, .int .i64 x.b, .int .i64 x.c]), (5, .pointer (some ⟨b3, 0, none⟩)), (6, (.slice none 0 0)), (7, (.slice none 0 0))] [(0, 17, .agg #[.int .i64 x.op, .int .i64 x.a, .int .i64 x.b, .int .i64 x.c]), (2, 19, .agg #[.int .i64 x.op, .int .i64 x.a, .int .i64 x.b, .int .i64 x.c])]) (by kernel_rfl) (by kernel_rfl) (Or.inl (⟨rfl, rfl, FrI.start h8.fr, h8.sh.drew⟩)) ?_ ?_
 ·intro S i o ho hSi hcl hdep a w hI
  clear h8
  rcases i with _ | _ | _ | _ | _ | _ | i
  ·obtain rfl : _ = o := Option.some.inj ho
   rcases hI with ⟨ν1, ν3, φ, ς⟩ | ⟨ν1, _⟩ | ⟨ν1, _⟩
   ·exact sq φ φ.fr0 ς (r_ldbw (i := 0) (vs := [.int .i64 x.op, .int .i64 x.a, .int .i64 x.b, .int .i64 x.c]) ti_32 rfl rfl rfl rfl rfl) 0 rfl rfl rfl rfl rfl rfl fun a hg => Or.inl (⟨un rfl ν1, un rfl ν3, hg, ς⟩)
   ·exact no_way (cA hcl 1 0 rfl ν1) hSi
   ·exact no_way (cA hcl 1 0 rfl ν1) hSi
  ·obtain rfl : _ = o := Option.some.inj ho
   have hd0 : S 0 = true := depAt hdep 0 rfl rfl
   rcases hI with ⟨ν1, ν3, φ, ς⟩ | ⟨ν1, _⟩ | ⟨ν1, _⟩
   ·have hs := St.mk (Fr.cons φ.fr0 (φ.at_ 0 0 17 _ rfl hd0)) ς
    refine step_ex (x_call hs bd_105 rfl rfl rfl rfl rfl (reads_ls (reads_c x _ (by first | exact hop | exact hop.1) hopa))) (wanted_none rfl _) ?_
    rintro a11 w11 ⟨_, ⟨s11, rfl, hs11⟩, hf11⟩ ⟨v0, ht11⟩
    have h11 := (⟨hf11, hs.sh.call hs11 (by intro A hA b hb; first | (simp at hA; done) | (simp at hA; subst hA; first | exact Flat.noRd hb | exact (hb : False).elim) | (simp at hA; rcases hA with rfl | rfl <;> first | exact Flat.noRd hb | exact (hb : False).elim))⟩ : St 134 (fun _ => False) W a11 w11 _ _)
    clear hf11 hs11
    exact Or.inr (Or.inl (⟨upd_self _ _, un rfl ν3, s11, φ.stepW hcl hSi [0, 1] (by kernel_rfl) (by kernel_rfl) ht11 h11.fr.defers (h11.fr.at_ 18 _ rfl) 2 rfl rfl rfl rfl, (h11.sh.sel (L' := [.own 3 (⟨s11.v, rdG x⟩ : Ls Int), .blk b3 32 [.int .i64 x.op, .int .i64 x.a, .int .i64 x.b, .int .i64 x.c], .rblk g 85 [cl.v, .map p], .at_ cl, .ro [.mapO p ml]]) [0, 1, 2, 3, 4] (by decide) ⟨rfl, rfl, rfl, rfl, rfl, trivial⟩)⟩))
   ·exact no_way ν1 hSi
   ·exact no_way ν1 hSi
  ·obtain rfl : _ = o := Option.some.inj ho
   rcases hI with ⟨ν1, ν3, φ, ς⟩ | ⟨ν1, ν3, s7001, φ, ς⟩ | ⟨_, ν3, _⟩
   ·exact sq φ φ.fr0 ς (r_ldbw (i := 0) (vs := [.int .i64 x.op, .int .i64 x.a, .int .i64 x.b, .int .i64 x.c]) ti_32 rfl rfl rfl rfl rfl) 1 rfl rfl rfl rfl rfl rfl fun a hg => Or.inl (⟨un rfl ν1, un rfl ν3, hg, ς⟩)
   ·exact sq φ φ.fr0 ς (r_ldbw (i := 1) (vs := [.int .i64 x.op, .int .i64 x.a, .int .i64 x.b, .int .i64 x.c]) ti_32 rfl rfl rfl rfl rfl) 1 rfl rfl rfl rfl rfl rfl fun a hg => Or.inr (Or.inl (⟨un rfl ν1, un rfl ν3, s7001, hg, ς⟩))
   ·exact no_way (cA hcl 3 2 rfl ν3) hSi
  ·obtain rfl : _ = o := Option.some.inj ho
   have hd2 : S 2 = true := depAt hdep 0 rfl rfl
   have hd1 : S 1 = true := depAt hdep 1 rfl rfl
   rcases hI with ⟨ν1, _⟩ | ⟨ν1, ν3, s7001, φ, ς⟩ | ⟨_, ν3, _⟩
   ·exact no_way hd1 ν1
   ·have hs := St.mk (Fr.cons φ.fr0 (φ.at_ 1 2 19 _ rfl hd2)) ς
    refine step_ex (x_call hs bd_100 rfl rfl rfl rfl rfl (writes_c x _ (by first | exact hop | exact hop.1))) (wanted_none rfl _) ?_
    rintro a14 w14 ⟨_, ⟨rfl, hs14⟩, hf14⟩ ⟨v0, ht14⟩
    have h14 : St 134 (fun _ => False) W a14 w14 _ _ := ⟨hf14, hs.sh.call0 hs14⟩
    clear hf14 hs14
    exact Or.inr (Or.inr (⟨un rfl ν1, upd_self _ _, s7001, φ.stepW hcl hSi [0, 1, 2] (by kernel_rfl) (by kernel_rfl) ht14 h14.fr.defers (h14.fr.at_ 20 _ rfl) 3 rfl rfl rfl rfl, (h14.sh.sel (L' := [.own 3 (⟨s7001.v, rdG x⟩ : Ls Int), .blk b3 32 [.int .i64 x.op, .int .i64 x.a, .int .i64 x.b, .int .i64 x.c], .rblk g 85 [cl.v, .map p], .at_ cl, .ro [.mapO p ml]]) [0, 1, 2, 3, 4] (by decide) ⟨rfl, rfl, rfl, rfl, rfl, trivial⟩)⟩))
   ·exact no_way ν3 hSi
  ·obtain rfl : _ = o := Option.some.inj ho
   have hd1 : S 1 = true := depAt hdep 0 rfl rfl
   have hd3 : S 3 = true := depAt hdep 1 rfl rfl
   rcases hI with ⟨ν1, _⟩ | ⟨_, ν3, _⟩ | ⟨ν1, ν3, s7001, φ, ς⟩
   ·exact no_way hd1 ν1
   ·exact no_way hd3 ν3
   ·exact sq φ (Fr.cons φ.fr0 (φ.at_ 2 1 18 _ rfl hd1)) ς (r_assign rfl rfl) 4 rfl rfl rfl rfl rfl rfl fun a hg => Or.inr (Or.inr (⟨un rfl ν1, un rfl ν3, s7001, hg, ς⟩))
  ·obtain rfl : _ = o := Option.some.inj ho
   have hd3 : S 3 = true := depAt hdep 0 rfl rfl
   have hd1 : S 1 = true := depAt hdep 3 rfl rfl
   rcases hI with ⟨ν1, _⟩ | ⟨_, ν3, _⟩ | ⟨ν1, ν3, s7001, φ, ς⟩
   ·exact no_way hd1 ν1
   ·exact no_way hd3 ν3
   ·exact sq φ (Fr.cons φ.fr0 (φ.at_ 3 3 20 _ rfl hd3)) ς (r_assign rfl rfl) 5 rfl rfl rfl rfl rfl rfl fun a hg => Or.inr (Or.inr (⟨un rfl ν1, un rfl ν3, s7001, hg, ς⟩))
  · simp at ho
 intro S hall a w hI
 clear h8
 rcases hI with ⟨ν1, ν3, φ, ς⟩ | ⟨ν1, ν3, s7001, φ, ς⟩ | ⟨ν1, ν3, s7001, φ, ς⟩
 · exact no_way (hall 1 (by decide)) ν1
 · exact no_way (hall 3 (by decide)) ν3
 have h17 : St 134 (fun _ => False) W a w _ [.own 3 (⟨s7001.v, rdG x⟩ : Ls Int), .blk b3 32 [.int .i64 x.op, .int .i64 x.a, .int .i64 x.b, .int .i64 x.c], .rblk g 85 [cl.v, .map p], .at_ cl, .ro [.mapO p ml]] := ⟨(Fr.cons (Fr.cons φ.fr0 (φ.at_ 4 4 8 _ rfl (hall 4 (by decide)))) (φ.at_ 5 5 9 _ rfl (hall 5 (by decide)))), ς⟩
 clear hall φ ς ν1 ν3
 refine hK7 _ _ <| wp_seq_k fun K18 hK18 => wp_region_lit <| wl_ex (x_makeZ h17 rfl rfl rfl) (wanted_none rfl _) ?_
 rintro a19 w19 ⟨g19, h19⟩; clear h17
 refine wms 1 h19 rfl fun a20 h20 => wpList_nil <| hK18 _ _ <| wp_seq_k fun K21 hK21 => wp_seq_k fun K22 hK22 => wp_region_lit <| wms 1 h20 rfl fun a23 h23 => ?_; clear h19 h20
 have hl24 : (rdG x).length ≤ 140737488355328 := (h23.sh.own 1 rfl).len
 refine wv h23 (r_len (s := (⟨s7001.v, rdG x⟩ : Ls Int)) (n := (rdG x).length) sl_23 rfl rfl (fun w h => (h.own 1 rfl)) rfl) rfl rfl fun a25 h25 => wms 1 h25 rfl fun a26 h26 => wpList_nil <| hK22 _ _ <| wp_block ?_; clear h23 h25
 have h28 := h26.nil (α := Ins) 32
 clear h26
 have hrl := rdG_len x
 refine x_loop (fun m a w => ∃ (k : Nat) (il : List (Int × Int)) (ol : List Ins) (vo : Value), (k ≤ (rdG x).length) ∧ (il = inL cl.l x k) ∧ (ol = ldF cl.l (fun r : Int => (getZ r ml).getD 0) x k) ∧ (ol.length ≤ k) ∧ St 134 (fun _ => False) W a w [(0, .pointer (some ⟨g, 0, none⟩)), (5, .pointer (some ⟨b3, 0, none⟩)), (7, vo), (9, .int .i64 (wrG x)), (10, .map (some g19)), (22, s7001.v), (23, .int .i64 (((rdG x).length : Nat) : Int)), (24, .int .i64 ((k : Nat) : Int))] [.mapO (some g19) il, .own 3 (⟨s7001.v, rdG x⟩ : Ls Int), .blk b3 32 [.int .i64 x.op, .int .i64 x.a, .int .i64 x.b, .int .i64 x.c], .rblk g 85 [cl.v, .map p], .at_ cl, .ro [.mapO p ml], .own 32 (⟨vo, ol⟩ : Ls Ins)] ∧ m = (rdG x).length - k) ⟨_, 0, [], [], (.slice none 0 0), (by omega), (rfl), (rfl), (Nat.le_refl _), h28.nrm ⟨rfl, rfl, rfl, rfl, rfl, rfl, rfl, rfl, trivial⟩ [1, 2, 3, 4, 5, 6, 0] (by decide) ⟨rfl, rfl, rfl, rfl, rfl, rfl, rfl, trivial⟩, rfl⟩ ?_
 clear h28
 rintro m27 a27 w27 ⟨k, il, ol, vo, hk, hil, hol, hon, h27, hm27⟩
 refine wp_seq_k fun K29 hK29 => wp_region_lit <| wv h27 (r_lssN (p := k) (q := (rdG x).length) rfl rfl rfl) rfl rfl fun a30 h30 => wpList_nil <| hK29 _ _ <| wp_seq_k fun K31 hK31 => x_cond h30 rfl (fun hb32 => ?_) (fun hb32 => ?_); clear h27
 ·have hp32 : k < (rdG x).length := of_decide_eq_true hb32
  refine wp_skip <| hK31 _ _ <| wp_seq_k fun K33 hK33 => wp_block <| wp_seq_k fun K34 hK34 => wp_region_lit <| wms 1 h30 rfl fun a35 h35 => wv h35 (r_ixN (s := (⟨s7001.v, rdG x⟩ : Ls Int)) (q := k) sl_23 ti_3 rfl rfl rfl (fun w h => (h.own 1 rfl)) (show k < (rdG x).length from (by omega))) rfl rfl fun a36 h36 => wv h36 (r_lde (s := (⟨s7001.v, rdG x⟩ : Ls Int)) (i := k) (v := .int .i64 (nth (rdG x) k)) ti_3 rfl rfl rfl (fun w h => (h.own 1 rfl)) (show k < (rdG x).length from (by omega)) (Nat.le_of_ble_eq_true rfl) rfl) rfl rfl fun a37 h37 => wms 2 h37 rfl fun a38 h38 => wpList_nil <| hK34 _ _ ?_; clear h30 h35 h36 h37
  have hr9 := hrd k (by omega)
  refine wp_seq_k fun K39 hK39 => wp_region_lit <| wms 5 h38 rfl fun a40 h40 => wv h40 (r_addN (p := 6) (q := k) rfl rfl rfl (show 6 + k < 9223372036854775808 from (by omega))) rfl rfl fun a41 h41 => wl_ex (x_call h41 bd_106 rfl rfl rfl rfl rfl (reg_c g cl p (nth (rdG x) k) ((6 + k : Nat) : Int) _ (h41.sh.rblk 3 rfl) (h41.sh.at 4 rfl) (by omega))) (wanted_none rfl _) ?_; clear h38 h40
  rintro a42 w42 ⟨_, ⟨rfl, hs42⟩, hf42⟩
  have h42 : St 134 (fun _ => False) W a42 w42 _ _ := ⟨hf42, h41.sh.call0 hs42⟩
  clear hf42 hs42
  clear h41
  refine wl_ex (x_updZ (i := 0) (k := ((k : Nat) : Int)) (v := (colr cl.l (nth (rdG x) k) ((6 + k : Nat) : Int))) h42 mz_80 rfl rfl rfl rfl rfl rfl (inL_none hil)) (wanted_none rfl _) ?_
  rintro a43 w43 h43
  clear h42
  refine wpList_nil <| hK39 _ _ <| wp_seq_k fun K44 hK44 => wp_region_lit <| wms 1 h43 rfl fun a45 h45 => wv h45 (r_nil rfl rfl) rfl rfl fun a46 h46 => wv h46 (r_fieldB (r := 0) fl_85_0 rfl rfl rfl) rfl rfl fun a47 h47 => wv h47 (r_ldbR ti_23 rfl rfl (fun w h => h.rblk 3 rfl) rfl) rfl rfl fun a48 h48 => wms 1 h48 rfl fun a49 h49 => ?_; clear h43 h45 h46 h47 h48
  have hl50 : cl.l.length ≤ 140737488355328 := (h49.sh.at 4 rfl).len
  refine wv h49 (r_ixI (s := cl) (q := nth (rdG x) k) sl_23 ti_3 rfl rfl rfl (fun w h => (h.at 4 rfl)) (show 0 ≤ nth (rdG x) k ∧ nth (rdG x) k < cl.l.length from (by omega))) rfl rfl fun a51 h51 => wv h51 (r_lde (s := cl) (i := (nth (rdG x) k).toNat) (v := .int .i64 (nth cl.l ((nth (rdG x) k).toNat))) ti_3 rfl rfl rfl (fun w h => (h.at 4 rfl)) (show (nth (rdG x) k).toNat < cl.l.length from (by omega)) (Nat.le_of_ble_eq_true rfl) rfl) rfl rfl fun a52 h52 => wv h52 (r_lssI (p := nth cl.l ((nth (rdG x) k).toNat)) (q := 0) rfl rfl rfl) rfl rfl fun a53 h53 => wpList_nil <| hK44 _ _ <| x_cond h53 rfl (fun hb54 => ?_) (fun hb54 => ?_); clear h49 h51 h52
  ·have hp54 : nth cl.l ((nth (rdG x) k).toNat) < 0 := of_decide_eq_true hb54
   refine wp_region_lit <| wms 2 h53 rfl fun a55 h55 => wv h55 (r_addN (p := 6) (q := k) rfl rfl rfl (show 6 + k < 9223372036854775808 from (by omega))) rfl rfl fun a56 h56 => wms 1 h56 rfl fun a57 h57 => wv h57 (r_nil rfl rfl) rfl rfl fun a58 h58 => wv h58 (r_fieldB (r := 1) fl_85_1 rfl rfl rfl) rfl rfl fun a59 h59 => wv h59 (r_ldbR ti_80 rfl rfl (fun w h => h.rblk 3 rfl) rfl) rfl rfl fun a60 h60 => wms 1 h60 rfl fun a61 h61 => wv h61 (r_lookZ0R (i := 5) (k := (nth (rdG x) k)) (l := ml) mz_80 rfl rfl rfl rfl) rfl rfl fun a62 h62 => wv h62 (r_build (cs := [.int .i64 8, .int .i64 ((6 + k : Nat) : Int), .int .i64 ((getZ (nth (rdG x) k) ml).getD 0), .int .i64 0]) rfl rfl (by kernel_rfl)) rfl rfl fun a63 h63 => wl_ex (x_lit (n := 1) (cs := [.int .i64 8, .int .i64 ((6 + k : Nat) : Int), .int .i64 ((getZ (nth (rdG x) k) ml).getD 0), .int .i64 0]) ([(⟨8, ((6 + k : Nat) : Int), (getZ (nth (rdG x) k) ml).getD 0, 0⟩ : Ins)] : List Ins) h63 sl_33 ti_32 rfl rfl rfl (by decide) rfl (by kernel_rfl) rfl (fun q hq w h => Flat.inner _ _) (fun q hq b hb => (Flat.on _ _ hb).elim) rfl rfl) (wanted_none rfl _) ?_; clear h53 h55 h56 h57 h58 h59 h60 h61 h62
   rintro a64 w64 ⟨v64, h64⟩; clear h63
   refine wl_ex (x_app (r := 7) (rm := 0) (s := (⟨vo, ol⟩ : Ls Ins)) (m := (⟨v64, [(⟨8, ((6 + k : Nat) : Int), (getZ (nth (rdG x) k) ml).getD 0, 0⟩ : Ins)]⟩ : Ls Ins)) h64 sl_33 ti_32 rfl rfl rfl rfl rfl rfl rfl (fun w h => (h.own 0 rfl)) (fun b hb => own_on (h64.sh.ok _ (List.mem_of_getElem? (i := 0) rfl)) hb) (fun q hq b hb => ⟨q, hq, hb⟩) rfl rfl rfl inferInstance (show (ol.length + ([(⟨8, ((6 + k : Nat) : Int), (getZ (nth (rdG x) k) ml).getD 0, 0⟩ : Ins)]).length) * 32 ≤ 140737488355328 ∧ ol.length + ([(⟨8, ((6 + k : Nat) : Int), (getZ (nth (rdG x) k) ml).getD 0, 0⟩ : Ins)]).length ≤ 140737488355328 from (by first | omega | (simp only [lens9]; omega))) rfl rfl) (wanted_none rfl _) ?_
   rintro a65 w65 ⟨v65, h65⟩; clear h64
   refine wms 1 h65 rfl fun a66 h66 => wpList_nil <| hK33 _ _ ?_; clear h65
   have h67 : St 134 (fun _ => False) W a66 w65 [(0, .pointer (some ⟨g, 0, none⟩)), (5, .pointer (some ⟨b3, 0, none⟩)), (7, v65), (9, .int .i64 (wrG x)), (10, .map (some g19)), (22, s7001.v), (23, .int .i64 (((rdG x).length : Nat) : Int)), (24, .int .i64 ((k : Nat) : Int))] [.own 32 (⟨v64, [(⟨8, ((6 + k : Nat) : Int), (getZ (nth (rdG x) k) ml).getD 0, 0⟩ : Ins)]⟩ : Ls Ins), .mapO (some g19) (il ++ [(((k : Nat) : Int), colr cl.l (nth (rdG x) k) ((6 + k : Nat) : Int))]), .own 3 (⟨s7001.v, rdG x⟩ : Ls Int), .blk b3 32 [.int .i64 x.op, .int .i64 x.a, .int .i64 x.b, .int .i64 x.c], .rblk g 85 [cl.v, .map p], .at_ cl, .ro [.mapO p ml], .own 32 (⟨v65, ol ++ ([(⟨8, ((6 + k : Nat) : Int), (getZ (nth (rdG x) k) ml).getD 0, 0⟩ : Ins)])⟩ : Ls Ins)] := h66.nrm ⟨rfl, rfl, rfl, rfl, rfl, rfl, rfl, rfl, trivial⟩ [0, 1, 2, 3, 4, 5, 6, 7] (by decide) ⟨rfl, rfl, rfl, rfl, rfl, rfl, rfl, rfl, trivial⟩
   clear h66
   refine wp_region_lit <| wv h67 (r_addN (p := k) (q := 1) rfl rfl rfl (show k + 1 < 9223372036854775808 from (by omega))) rfl rfl fun a68 h68 => wms 1 h68 rfl fun a69 h69 => wpList_nil <| x_again ⟨_, ?_, k + 1, il ++ [(((k : Nat) : Int), colr cl.l (nth (rdG x) k) ((6 + k : Nat) : Int))], ol ++ ([(⟨8, ((6 + k : Nat) : Int), (getZ (nth (rdG x) k) ml).getD 0, 0⟩ : Ins)]), v65, ?_, ?_, ?_, ?_, h69.nrm ⟨rfl, rfl, rfl, rfl, rfl, rfl, rfl, rfl, trivial⟩ [1, 2, 3, 4, 5, 6, 7] (by decide) ⟨rfl, rfl, rfl, rfl, rfl, rfl, rfl, trivial⟩, rfl⟩; clear h67 h68
   · rw [hm27]; first | omega | (simp only [lens9]; omega)
   · omega
   · rw [inL_succ, ← hil]
   · first | exact ldF_yes hol (by assumption) | exact ldF_no hol (by assumption)
   · first | omega | (simp only [lens9]; omega)
  have hp54 : ¬ (nth cl.l ((nth (rdG x) k).toNat) < 0) := of_decide_eq_false hb54
  refine wp_skip <| hK33 _ _ <| wp_region_lit <| wv h53 (r_addN (p := k) (q := 1) rfl rfl rfl (show k + 1 < 9223372036854775808 from (by omega))) rfl rfl fun a70 h70 => wms 1 h70 rfl fun a71 h71 => wpList_nil <| x_again ⟨_, ?_, k + 1, il ++ [(((k : Nat) : Int), colr cl.l (nth (rdG x) k) ((6 + k : Nat) : Int))], ol, vo, ?_, ?_, ?_, ?_, h71.nrm ⟨rfl, rfl, rfl, rfl, rfl, rfl, rfl, rfl, trivial⟩ [0, 1, 2, 3, 4, 5, 6] (by decide) ⟨rfl, rfl, rfl, rfl, rfl, rfl, rfl, trivial⟩, rfl⟩; clear h53 h70
  · rw [hm27]; first | omega | (simp only [lens9]; omega)
  · omega
  · rw [inL_succ, ← hil]
  · first | exact ldF_yes hol (by assumption) | exact ldF_no hol (by assumption)
  · first | omega | (simp only [lens9]; omega)
 have hp32 : ¬ (k < (rdG x).length) := of_decide_eq_false hb32
 refine wp_exit <| hK21 _ _ <| wp_seq_k fun K72 hK72 => wp_region_lit <| wv h30 (r_fieldB (r := 1) fl_32_1 rfl rfl rfl) rfl rfl fun a73 h73 => wv h73 (r_fieldB (r := 2) fl_32_2 rfl rfl rfl) rfl rfl fun a74 h74 => wv h74 (r_fieldB (r := 3) fl_32_3 rfl rfl rfl) rfl rfl fun a75 h75 => wl_ex (x_lit (n := 3) (cs := [.pointer (some ⟨b3, 1, none⟩), .pointer (some ⟨b3, 2, none⟩), .pointer (some ⟨b3, 3, none⟩)]) ([(⟨.pointer (some ⟨b3, 1, none⟩)⟩ : RV), (⟨.pointer (some ⟨b3, 2, none⟩)⟩ : RV), (⟨.pointer (some ⟨b3, 3, none⟩)⟩ : RV)] : List RV) h75 sl_172 ti_171 rfl rfl rfl (by decide) rfl (by kernel_rfl) rfl (fun q hq w h => Flat.inner _ _) (fun q hq b hb => (Flat.on _ _ hb).elim) rfl rfl) (wanted_none rfl _) ?_; clear h30 h73 h74
 rintro a76 w76 ⟨v76, h76⟩; clear h75
 refine wms 1 h76 rfl fun a77 h77 => wpList_nil <| hK72 _ _ <| wp_seq_k fun K78 hK78 => wp_region_lit <| wms 1 h77 rfl fun a79 h79 => wpList_nil <| hK78 _ _ <| wp_seq_k fun K80 hK80 => wp_seq_k fun K81 hK81 => wp_region_lit <| wv h79 (r_fieldB (r := 0) fl_32_0 rfl rfl rfl) rfl rfl fun a82 h82 => wv h82 (r_ldb (i := 3) ti_3 rfl rfl rfl rfl) rfl rfl fun a83 h83 => wl_ex (x_call h83 bd_101 rfl rfl rfl rfl rfl (kinds_c x.op _)) (wanted_none rfl _) ?_; clear h76 h77 h79 h82
 rintro a84 w84 ⟨_, ⟨rfl, hs84⟩, hf84⟩
 have h84 : St 134 (fun _ => False) W a84 w84 _ _ := ⟨hf84, h83.sh.call0 hs84⟩
 clear hf84 hs84
 clear h83
 refine wl_ex (x_range (s := kindsB x.op) h84 Try.underlying9 rfl rfl rfl rfl) (wanted_none rfl _) ?_
 rintro a85 w85 ⟨b85, h85⟩; clear h84
 refine wpList_nil <| hK81 _ _ <| wp_block <| x_loop (fun m a w => ∃ (n k2 : Nat) (y : Ins), (n ≤ (kindsB x.op).size) ∧ (k2 ≤ n) ∧ (ptS (fun j => (getZ (j : Int) il).getD 0) (colr cl.l (wrG x) 6) x n = (y, k2)) ∧ St 134 (fun _ => False) W a w [(0, .pointer (some ⟨g, 0, none⟩)), (5, .pointer (some ⟨b3, 0, none⟩)), (7, vo), (9, .int .i64 (wrG x)), (10, .map (some g19)), (13, v76), (14, .int .i64 ((k2 : Nat) : Int)), (64, .pointer (some ⟨b85, 0, none⟩))] [.iter b85 (kindsB x.op) n, .own 171 (⟨v76, [(⟨.pointer (some ⟨b3, 1, none⟩)⟩ : RV), (⟨.pointer (some ⟨b3, 2, none⟩)⟩ : RV), (⟨.pointer (some ⟨b3, 3, none⟩)⟩ : RV)]⟩ : Ls RV), .mapO (some g19) il, .own 3 (⟨s7001.v, rdG x⟩ : Ls Int), .blk b3 32 [.int .i64 y.op, .int .i64 y.a, .int .i64 y.b, .int .i64 y.c], .rblk g 85 [cl.v, .map p], .at_ cl, .ro [.mapO p ml], .own 32 (⟨vo, ol⟩ : Ls Ins)] ∧ m = (kindsB x.op).size - n) ⟨_, 0, 0, x, (Nat.zero_le _), (Nat.le_refl _), (rfl), h85.nrm ⟨rfl, rfl, rfl, rfl, rfl, rfl, rfl, rfl, trivial⟩ [0, 1, 2, 3, 4, 5, 6, 7, 8] (by decide) ⟨rfl, rfl, rfl, rfl, rfl, rfl, rfl, rfl, rfl, trivial⟩, rfl⟩ ?_
 clear h85
 rintro m86 a86 w86 ⟨n, k2, y, hn, hk2, hy, h86, hm86⟩
 have h3 := (kinds_small x.op).1
 have hyo : y.op = x.op := by have h9 := ptS_op (fun j => (getZ (j : Int) il).getD 0) (colr cl.l (wrG x) 6) x n; rw [hy] at h9; exact h9
 refine wp_seq_k fun K87 hK87 => wp_region_lit ?_
 by_cases hn88 : n < (kindsB x.op).size
 ·refine wl_ex (x_next (i := 0) (s := (kindsB x.op)) (pos := n) h86 rfl rfl rfl hn88 ((kinds_small x.op).2 _ hn88) rfl rfl) (wanted_none rfl _) ?_
  rintro a89 w89 h89
  clear h86
  refine wv h89 (r_extract rfl rfl rfl) rfl rfl fun a90 h90 => wpList_nil <| hK87 _ _ <| wp_seq_k fun K91 hK91 => x_condT h90 rfl rfl <| wp_skip <| hK91 _ _ <| wp_block <| wp_seq_k fun K92 hK92 => wp_region_lit <| wv h90 (r_extract rfl rfl rfl) rfl rfl fun a93 h93 => wv h93 (r_extract rfl rfl rfl) rfl rfl fun a94 h94 => wms 2 h94 rfl fun a95 h95 => wpList_nil ?_; clear h89 h90 h93 h94
  refine hK92 _ _ <| wp_block <| wp_seq_k fun K96 hK96 => wp_region_lit <| wms 1 h95 rfl fun a97 h97 => wv h97 (r_neqI (p := (((kindsB x.op)[n]'hn88).toNat : Int)) (q := 114) rfl rfl rfl) rfl rfl fun a98 h98 => wms 1 h98 rfl fun a99 h99 => wpList_nil <| hK96 _ _ <| x_cond h99 rfl (fun hb100 => ?_) (fun hb100 => ?_); clear h95 h97 h98
  ·have hp100 : (((kindsB x.op)[n]'hn88).toNat : Int) ≠ 114 := of_decide_eq_true hb100
   refine wp_skip ?_
   change ∃ _m, _m < _ ∧ _
   refine ⟨_, ?_, (n + 1), k2, y, ?_, ?_, ?_, h99.nrm ⟨rfl, rfl, rfl, rfl, rfl, rfl, rfl, rfl, trivial⟩ [0, 1, 2, 3, 4, 5, 6, 7, 8] (by decide) ⟨rfl, rfl, rfl, rfl, rfl, rfl, rfl, rfl, rfl, trivial⟩, rfl⟩
   · rw [hm86]; first | omega | (simp only [lens9]; omega)
   · omega
   · omega
   · first | exact pf_w hy (by rw [kAt_at (by assumption)]; first | assumption | omega) (by assumption) (by assumption) (by assumption) | exact pf_r hy (by rw [kAt_at (by assumption)]; first | assumption | omega) (by omega) | exact pt_n hy (by rw [kAt_at (by assumption)]; first | assumption | omega)
  have hp100 : ¬ ((((kindsB x.op)[n]'hn88).toNat : Int) ≠ 114) := of_decide_eq_false hb100
  refine wp_seq_k fun K101 hK101 => wp_region_lit <| wms 1 h99 rfl fun a102 h102 => wv h102 (r_eqlN (p := n) (q := 0) rfl rfl rfl) rfl rfl fun a103 h103 => wms 1 h103 rfl fun a104 h104 => ?_; clear h99 h102 h103
  rcases Bool.eq_false_or_eq_true (decide (n = 0)) with hb105 | hb105
  ·have hp105 : n = 0 := of_decide_eq_true hb105
   refine wl_val h104 (r_move rfl rfl) (wanted_yes h104.fr rfl rfl rfl rfl hb105) rfl rfl fun a106 h106 => wl_val h106 (r_geqI (p := wrG x) (q := 0) rfl rfl rfl) (wanted_yes h106.fr rfl rfl rfl rfl hb105) rfl rfl fun a107 h107 => wv h107 (r_pickT rfl rfl hb105 rfl) rfl rfl fun a108 h108 => wms 1 h108 rfl fun a109 h109 => ?_; clear h104 h106 h107 h108
   rcases Bool.eq_false_or_eq_true (decide (0 ≤ wrG x)) with hb110 | hb110
   ·have hp110 : 0 ≤ wrG x := of_decide_eq_true hb110
    refine wl_val h109 (r_fieldB (r := 0) fl_32_0 rfl rfl rfl) (wanted_yes h109.fr rfl rfl rfl rfl hb110) rfl rfl fun a111 h111 => wl_val h111 (r_ldb (i := 4) ti_3 rfl rfl rfl rfl) (wanted_yes h111.fr rfl rfl rfl rfl hb110) rfl rfl fun a112 h112 => wl_val h112 (r_neqI (p := y.op) (q := 13) rfl rfl rfl) (wanted_yes h112.fr rfl rfl rfl rfl hb110) rfl rfl fun a113 h113 => wv h113 (r_pickT rfl rfl hb110 rfl) rfl rfl fun a114 h114 => wms 1 h114 rfl fun a115 h115 => wpList_nil <| hK101 _ _ <| x_cond h115 rfl (fun hb116 => ?_) (fun hb116 => ?_); clear h109 h111 h112 h113 h114
    ·have hp116 : y.op ≠ 13 := of_decide_eq_true hb116
     have h117 : St 134 (fun _ => False) W a115 w89 [(0, .pointer (some ⟨g, 0, none⟩)), (5, .pointer (some ⟨b3, 0, none⟩)), (7, vo), (9, .int .i64 (wrG x)), (10, .map (some g19)), (13, v76), (14, .int .i64 ((k2 : Nat) : Int)), (15, .int .i64 ((n : Nat) : Int)), (16, .int .i32 (((kindsB x.op)[n]'hn88).toNat : Int)), (64, .pointer (some ⟨b85, 0, none⟩)), (65, .tuple #[.bool true, .int .i64 ((n : Nat) : Int), .int .i32 (((kindsB x.op)[n]'hn88).toNat : Int)]), (66, .bool true), (67, .int .i64 ((n : Nat) : Int)), (68, .int .i32 (((kindsB x.op)[n]'hn88).toNat : Int)), (79, .bool (decide ((((kindsB x.op)[n]'hn88).toNat : Int) ≠ 114))), (80, .int .i32 (((kindsB x.op)[n]'hn88).toNat : Int)), (81, .bool (decide ((((kindsB x.op)[n]'hn88).toNat : Int) ≠ 114))), (82, .bool (decide (y.op ≠ 13))), (83, .int .i64 ((n : Nat) : Int)), (84, .bool (decide (n = 0))), (85, .bool (decide (n = 0))), (86, .int .i64 (wrG x)), (87, .bool (decide (0 ≤ wrG x))), (88, .bool (decide (0 ≤ wrG x))), (89, .bool (decide (0 ≤ wrG x))), (90, .pointer (some ⟨b3, 0, none⟩)), (91, .int .i64 y.op), (92, .bool (decide (y.op ≠ 13))), (93, .bool (decide (y.op ≠ 13)))] [.iter b85 (kindsB x.op) (n + 1), .own 171 (⟨v76, [(⟨.pointer (some ⟨b3, 1, none⟩)⟩ : RV), (⟨.pointer (some ⟨b3, 2, none⟩)⟩ : RV), (⟨.pointer (some ⟨b3, 3, none⟩)⟩ : RV)]⟩ : Ls RV), .mapO (some g19) il, .own 3 (⟨s7001.v, rdG x⟩ : Ls Int), .blk b3 32 [.int .i64 y.op, .int .i64 y.a, .int .i64 y.b, .int .i64 y.c], .rblk g 85 [cl.v, .map p], .at_ cl, .ro [.mapO p ml], .own 32 (⟨vo, ol⟩ : Ls Ins)] := h115.nrm ⟨rfl, rfl, rfl, rfl, rfl, rfl, rfl, rfl, rfl, rfl, rfl, rfl, rfl, rfl, rfl, rfl, rfl, rfl, rfl, rfl, rfl, rfl, rfl, rfl, rfl, rfl, rfl, rfl, rfl, trivial⟩ [0, 1, 2, 3, 4, 5, 6, 7, 8] (by decide) ⟨rfl, rfl, rfl, rfl, rfl, rfl, rfl, rfl, rfl, trivial⟩
     clear h115
     refine x_any ((fun Φ Ψ S a w => (S 11 = false ∧ S 13 = false ∧ FrI 134 S Φ Ψ a ∧ Sh (fun _ => False) W w [.iter b85 (kindsB x.op) (n + 1), .own 171 (⟨v76, [(⟨.pointer (some ⟨b3, 1, none⟩)⟩ : RV), (⟨.pointer (some ⟨b3, 2, none⟩)⟩ : RV), (⟨.pointer (some ⟨b3, 3, none⟩)⟩ : RV)]⟩ : Ls RV), .mapO (some g19) il, .own 3 (⟨s7001.v, rdG x⟩ : Ls Int), .blk b3 32 [.int .i64 y.op, .int .i64 y.a, .int .i64 y.b, .int .i64 y.c], .rblk g 85 [cl.v, .map p], .at_ cl, .ro [.mapO p ml], .own 32 (⟨vo, ol⟩ : Ls Ins)]) ∨ (S 11 = true ∧ S 13 = false ∧ FrI 134 S Φ (Ψ ++ [(11, 105, .int .i64 (colr cl.l (nth [y.a, y.b, y.c] n) 6)), (12, 106, .pointer (some ⟨b3, n + 1, none⟩))]) a ∧ Sh (fun _ => False) W w [.iter b85 (kindsB x.op) (n + 1), .own 171 (⟨v76, [(⟨.pointer (some ⟨b3, 1, none⟩)⟩ : RV), (⟨.pointer (some ⟨b3, 2, none⟩)⟩ : RV), (⟨.pointer (some ⟨b3, 3, none⟩)⟩ : RV)]⟩ : Ls RV), .mapO (some g19) il, .own 3 (⟨s7001.v, rdG x⟩ : Ls Int), .blk b3 32 [.int .i64 y.op, .int .i64 y.a, .int .i64 y.b, .int .i64 y.c], .rblk g 85 [cl.v, .map p], .at_ cl, .ro [.mapO p ml], .own 32 (⟨vo, ol⟩ : Ls Ins)]) ∨ (S 11 = true ∧ S 13 = true ∧ FrI 134 S Φ (Ψ ++ [(11, 105, .int .i64 (colr cl.l (nth [y.a, y.b, y.c] n) 6)), (12, 106, .pointer (some ⟨b3, n + 1, none⟩))]) a ∧ Sh (fun _ => False) W w [.iter b85 (kindsB x.op) (n + 1), .own 171 (⟨v76, [(⟨.pointer (some ⟨b3, 1, none⟩)⟩ : RV), (⟨.pointer (some ⟨b3, 2, none⟩)⟩ : RV), (⟨.pointer (some ⟨b3, 3, none⟩)⟩ : RV)]⟩ : Ls RV), .mapO (some g19) il, .own 3 (⟨s7001.v, rdG x⟩ : Ls Int), .blk b3 32 [.int .i64 ((putK y n (colr cl.l (nth [y.a, y.b, y.c] n) 6)).op), .int .i64 ((putK y n (colr cl.l (nth [y.a, y.b, y.c] n) 6)).a), .int .i64 ((putK y n (colr cl.l (nth [y.a, y.b, y.c] n) 6)).b), .int .i64 ((putK y n (colr cl.l (nth [y.a, y.b, y.c] n) 6)).c)], .rblk g 85 [cl.v, .map p], .at_ cl, .ro [.mapO p ml], .own 32 (⟨vo, ol⟩ : Ls Ins)])) [(0, .pointer (some ⟨g, 0, none⟩)), (5, .pointer (some ⟨b3, 0, none⟩)), (7, vo), (9, .int .i64 (wrG x)), (10, .map (some g19)), (13, v76), (14, .int .i64 ((k2 : Nat) : Int)), (15, .int .i64 ((n : Nat) : Int)), (16, .int .i32 (((kindsB x.op)[n]'hn88).toNat : Int)), (64, .pointer (some ⟨b85, 0, none⟩)), (65, .tuple #[.bool true, .int .i64 ((n : Nat) : Int), .int .i32 (((kindsB x.op)[n]'hn88).toNat : Int)]), (66, .bool true), (67, .int .i64 ((n : Nat) : Int)), (68, .int .i32 (((kindsB x.op)[n]'hn88).toNat : Int)), (79, .bool (decide ((((kindsB x.op)[n]'hn88).toNat : Int) ≠ 114))), (80, .int .i32 (((kindsB x.op)[n]'hn88).toNat : Int)), (81, .bool (decide ((((kindsB x.op)[n]'hn88).toNat : Int) ≠ 114))), (82, .bool (decide (y.op ≠ 13))), (83, .int .i64 ((n : Nat) : Int)), (84, .bool (decide (n = 0))), (85, .bool (decide (n = 0))), (86, .int .i64 (wrG x)), (87, .bool (decide (0 ≤ wrG x))), (88, .bool (decide (0 ≤ wrG x))), (89, .bool (decide (0 ≤ wrG x))), (90, .pointer (some ⟨b3, 0, none⟩)), (91, .int .i64 y.op), (92, .bool (decide (y.op ≠ 13))), (93, .bool (decide (y.op ≠ 13)))] [(0, 94, v76), (1, 95, .int .i64 ((n : Nat) : Int)), (2, 96, .pointer (some (padr v76 1 n 0))), (3, 97, .pointer (some ⟨b3, n + 1, none⟩)), (4, 98, .pointer (some ⟨g, 0, none⟩)), (5, 99, v76), (6, 100, .int .i64 ((n : Nat) : Int)), (7, 101, .pointer (some (padr v76 1 n 0))), (8, 102, .pointer (some ⟨b3, n + 1, none⟩)), (9, 103, .pointer (some ⟨b3, n + 1, none⟩)), (10, 104, .int .i64 (nth [y.a, y.b, y.c] n))]) (by kernel_rfl) (by kernel_rfl) (Or.inl (⟨rfl, rfl, FrI.start h117.fr, h117.sh.drew⟩)) ?_ ?_
     ·intro S i o ho hSi hcl hdep a w hI
      clear h117
      rcases i with _ | _ | _ | _ | _ | _ | _ | _ | _ | _ | _ | _ | _ | _ | i
      ·obtain rfl : _ = o := Option.some.inj ho
       rcases hI with ⟨ν11, ν13, φ, ς⟩ | ⟨ν11, ν13, φ, ς⟩ | ⟨_, ν13, _⟩
       ·exact sq φ φ.fr0 ς (r_move rfl rfl) 0 rfl rfl rfl rfl rfl rfl fun a hg => Or.inl (⟨un rfl ν11, un rfl ν13, hg, ς⟩)
       ·exact sq φ φ.fr0 ς (r_move rfl rfl) 0 rfl rfl rfl rfl rfl rfl fun a hg => Or.inr (Or.inl (⟨un rfl ν11, un rfl ν13, hg, ς⟩))
       ·exact no_way (cA hcl 13 0 rfl ν13) hSi
      ·obtain rfl : _ = o := Option.some.inj ho
       rcases hI with ⟨ν11, ν13, φ, ς⟩ | ⟨ν11, ν13, φ, ς⟩ | ⟨_, ν13, _⟩
       ·exact sq φ φ.fr0 ς (r_move rfl rfl) 1 rfl rfl rfl rfl rfl rfl fun a hg => Or.inl (⟨un rfl ν11, un rfl ν13, hg, ς⟩)
       ·exact sq φ φ.fr0 ς (r_move rfl rfl) 1 rfl rfl rfl rfl rfl rfl fun a hg => Or.inr (Or.inl (⟨un rfl ν11, un rfl ν13, hg, ς⟩))
       ·exact no_way (cA hcl 13 1 rfl ν13) hSi
      ·obtain rfl : _ = o := Option.some.inj ho
       have hd0 : S 0 = true := depAt hdep 0 rfl rfl
       have hd1 : S 1 = true := depAt hdep 1 rfl rfl
       rcases hI with ⟨ν11, ν13, φ, ς⟩ | ⟨ν11, ν13, φ, ς⟩ | ⟨_, ν13, _⟩
       ·have hs := St.mk (Fr.cons (Fr.cons φ.fr0 (φ.at_ 0 0 94 _ rfl hd0)) (φ.at_ 1 1 95 _ rfl hd1)) ς
        have hl126 : ([(⟨.pointer (some ⟨b3, 1, none⟩)⟩ : RV), (⟨.pointer (some ⟨b3, 2, none⟩)⟩ : RV), (⟨.pointer (some ⟨b3, 3, none⟩)⟩ : RV)]).length ≤ 140737488355328 := (hs.sh.own 1 rfl).len
        exact sq φ (Fr.cons (Fr.cons φ.fr0 (φ.at_ 0 0 94 _ rfl hd0)) (φ.at_ 1 1 95 _ rfl hd1)) ς (r_ixN (s := (⟨v76, [(⟨.pointer (some ⟨b3, 1, none⟩)⟩ : RV), (⟨.pointer (some ⟨b3, 2, none⟩)⟩ : RV), (⟨.pointer (some ⟨b3, 3, none⟩)⟩ : RV)]⟩ : Ls RV)) (q := n) sl_172 ti_171 rfl rfl rfl (fun w h => (h.own 1 rfl)) (show n < ([(⟨.pointer (some ⟨b3, 1, none⟩)⟩ : RV), (⟨.pointer (some ⟨b3, 2, none⟩)⟩ : RV), (⟨.pointer (some ⟨b3, 3, none⟩)⟩ : RV)]).length from (by first | omega | (simp only [lens9]; omega)))) 2 rfl rfl rfl rfl rfl rfl fun a hg => Or.inl (⟨un rfl ν11, un rfl ν13, hg, ς⟩)
       ·have hs := St.mk (Fr.cons (Fr.cons φ.fr0 (φ.at_ 0 0 94 _ rfl hd0)) (φ.at_ 1 1 95 _ rfl hd1)) ς
        have hl128 : ([(⟨.pointer (some ⟨b3, 1, none⟩)⟩ : RV), (⟨.pointer (some ⟨b3, 2, none⟩)⟩ : RV), (⟨.pointer (some ⟨b3, 3, none⟩)⟩ : RV)]).length ≤ 140737488355328 := (hs.sh.own 1 rfl).len
        exact sq φ (Fr.cons (Fr.cons φ.fr0 (φ.at_ 0 0 94 _ rfl hd0)) (φ.at_ 1 1 95 _ rfl hd1)) ς (r_ixN (s := (⟨v76, [(⟨.pointer (some ⟨b3, 1, none⟩)⟩ : RV), (⟨.pointer (some ⟨b3, 2, none⟩)⟩ : RV), (⟨.pointer (some ⟨b3, 3, none⟩)⟩ : RV)]⟩ : Ls RV)) (q := n) sl_172 ti_171 rfl rfl rfl (fun w h => (h.own 1 rfl)) (show n < ([(⟨.pointer (some ⟨b3, 1, none⟩)⟩ : RV), (⟨.pointer (some ⟨b3, 2, none⟩)⟩ : RV), (⟨.pointer (some ⟨b3, 3, none⟩)⟩ : RV)]).length from (by first | omega | (simp only [lens9]; omega)))) 2 rfl rfl rfl rfl rfl rfl fun a hg => Or.inr (Or.inl (⟨un rfl ν11, un rfl ν13, hg, ς⟩))
       ·exact no_way (cA hcl 13 2 rfl ν13) hSi
      ·obtain rfl : _ = o := Option.some.inj ho
       have hd2 : S 2 = true := depAt hdep 0 rfl rfl
       rcases hI with ⟨ν11, ν13, φ, ς⟩ | ⟨ν11, ν13, φ, ς⟩ | ⟨_, ν13, _⟩
       ·exact sq φ (Fr.cons φ.fr0 (φ.at_ 2 2 96 _ rfl hd2)) ς (Rn.same (r_lde (s := (⟨v76, [(⟨.pointer (some ⟨b3, 1, none⟩)⟩ : RV), (⟨.pointer (some ⟨b3, 2, none⟩)⟩ : RV), (⟨.pointer (some ⟨b3, 3, none⟩)⟩ : RV)]⟩ : Ls RV)) (i := n) (v := ((nth ([(⟨.pointer (some ⟨b3, 1, none⟩)⟩ : RV), (⟨.pointer (some ⟨b3, 2, none⟩)⟩ : RV), (⟨.pointer (some ⟨b3, 3, none⟩)⟩ : RV)]) n).v)) ti_171 rfl rfl rfl (fun w h => (h.own 1 rfl)) (show n < ([(⟨.pointer (some ⟨b3, 1, none⟩)⟩ : RV), (⟨.pointer (some ⟨b3, 2, none⟩)⟩ : RV), (⟨.pointer (some ⟨b3, 3, none⟩)⟩ : RV)]).length from (by first | omega | (simp only [lens9]; omega))) (Nat.le_of_ble_eq_true rfl) rfl) (congrArg RV.v (ix_Bk (⟨0, 0, 0, 0⟩ : Ins) b3 n (by omega)))) 3 rfl rfl rfl rfl rfl rfl fun a hg => Or.inl (⟨un rfl ν11, un rfl ν13, hg, ς⟩)
       ·exact sq φ (Fr.cons φ.fr0 (φ.at_ 2 2 96 _ rfl hd2)) ς (Rn.same (r_lde (s := (⟨v76, [(⟨.pointer (some ⟨b3, 1, none⟩)⟩ : RV), (⟨.pointer (some ⟨b3, 2, none⟩)⟩ : RV), (⟨.pointer (some ⟨b3, 3, none⟩)⟩ : RV)]⟩ : Ls RV)) (i := n) (v := ((nth ([(⟨.pointer (some ⟨b3, 1, none⟩)⟩ : RV), (⟨.pointer (some ⟨b3, 2, none⟩)⟩ : RV), (⟨.pointer (some ⟨b3, 3, none⟩)⟩ : RV)]) n).v)) ti_171 rfl rfl rfl (fun w h => (h.own 1 rfl)) (show n < ([(⟨.pointer (some ⟨b3, 1, none⟩)⟩ : RV), (⟨.pointer (some ⟨b3, 2, none⟩)⟩ : RV), (⟨.pointer (some ⟨b3, 3, none⟩)⟩ : RV)]).length from (by first | omega | (simp only [lens9]; omega))) (Nat.le_of_ble_eq_true rfl) rfl) (congrArg RV.v (ix_Bk (⟨0, 0, 0, 0⟩ : Ins) b3 n (by omega)))) 3 rfl rfl rfl rfl rfl rfl fun a hg => Or.inr (Or.inl (⟨un rfl ν11, un rfl ν13, hg, ς⟩))
       ·exact no_way (cA hcl 13 3 rfl ν13) hSi
      ·obtain rfl : _ = o := Option.some.inj ho
       rcases hI with ⟨ν11, ν13, φ, ς⟩ | ⟨ν11, _⟩ | ⟨ν11, _⟩
       ·exact sq φ φ.fr0 ς (r_move rfl rfl) 4 rfl rfl rfl rfl rfl rfl fun a hg => Or.inl (⟨un rfl ν11, un rfl ν13, hg, ς⟩)
       ·exact no_way (cA hcl 11 4 rfl ν11) hSi
       ·exact no_way (cA hcl 11 4 rfl ν11) hSi
      ·obtain rfl : _ = o := Option.some.inj ho
       rcases hI with ⟨ν11, ν13, φ, ς⟩ | ⟨ν11, _⟩ | ⟨ν11, _⟩
       ·exact sq φ φ.fr0 ς (r_move rfl rfl) 5 rfl rfl rfl rfl rfl rfl fun a hg => Or.inl (⟨un rfl ν11, un rfl ν13, hg, ς⟩)
       ·exact no_way (cA hcl 11 5 rfl ν11) hSi
       ·exact no_way (cA hcl 11 5 rfl ν11) hSi
      ·obtain rfl : _ = o := Option.some.inj ho
       rcases hI with ⟨ν11, ν13, φ, ς⟩ | ⟨ν11, _⟩ | ⟨ν11, _⟩
       ·exact sq φ φ.fr0 ς (r_move rfl rfl) 6 rfl rfl rfl rfl rfl rfl fun a hg => Or.inl (⟨un rfl ν11, un rfl ν13, hg, ς⟩)
       ·exact no_way (cA hcl 11 6 rfl ν11) hSi
       ·exact no_way (cA hcl 11 6 rfl ν11) hSi
      ·obtain rfl : _ = o := Option.some.inj ho
       have hd5 : S 5 = true := depAt hdep 0 rfl rfl
       have hd6 : S 6 = true := depAt hdep 1 rfl rfl
       rcases hI with ⟨ν11, ν13, φ, ς⟩ | ⟨ν11, _⟩ | ⟨ν11, _⟩
       ·have hs := St.mk (Fr.cons (Fr.cons φ.fr0 (φ.at_ 5 5 99 _ rfl hd5)) (φ.at_ 6 6 100 _ rfl hd6)) ς
        have hl135 : ([(⟨.pointer (some ⟨b3, 1, none⟩)⟩ : RV), (⟨.pointer (some ⟨b3, 2, none⟩)⟩ : RV), (⟨.pointer (some ⟨b3, 3, none⟩)⟩ : RV)]).length ≤ 140737488355328 := (hs.sh.own 1 rfl).len
        exact sq φ (Fr.cons (Fr.cons φ.fr0 (φ.at_ 5 5 99 _ rfl hd5)) (φ.at_ 6 6 100 _ rfl hd6)) ς (r_ixN (s := (⟨v76, [(⟨.pointer (some ⟨b3, 1, none⟩)⟩ : RV), (⟨.pointer (some ⟨b3, 2, none⟩)⟩ : RV), (⟨.pointer (some ⟨b3, 3, none⟩)⟩ : RV)]⟩ : Ls RV)) (q := n) sl_172 ti_171 rfl rfl rfl (fun w h => (h.own 1 rfl)) (show n < ([(⟨.pointer (some ⟨b3, 1, none⟩)⟩ : RV), (⟨.pointer (some ⟨b3, 2, none⟩)⟩ : RV), (⟨.pointer (some ⟨b3, 3, none⟩)⟩ : RV)]).length from (by first | omega | (simp only [lens9]; omega)))) 7 rfl rfl rfl rfl rfl rfl fun a hg => Or.inl (⟨un rfl ν11, un rfl ν13, hg, ς⟩)
       ·exact no_way (cA hcl 11 7 rfl ν11) hSi
       ·exact no_way (cA hcl 11 7 rfl ν11) hSi
      ·obtain rfl : _ = o := Option.some.inj ho
       have hd7 : S 7 = true := depAt hdep 0 rfl rfl
       rcases hI with ⟨ν11, ν13, φ, ς⟩ | ⟨ν11, _⟩ | ⟨ν11, _⟩
       ·exact sq φ (Fr.cons φ.fr0 (φ.at_ 7 7 101 _ rfl hd7)) ς (Rn.same (r_lde (s := (⟨v76, [(⟨.pointer (some ⟨b3, 1, none⟩)⟩ : RV), (⟨.pointer (some ⟨b3, 2, none⟩)⟩ : RV), (⟨.pointer (some ⟨b3, 3, none⟩)⟩ : RV)]⟩ : Ls RV)) (i := n) (v := ((nth ([(⟨.pointer (some ⟨b3, 1, none⟩)⟩ : RV), (⟨.pointer (some ⟨b3, 2, none⟩)⟩ : RV), (⟨.pointer (some ⟨b3, 3, none⟩)⟩ : RV)]) n).v)) ti_171 rfl rfl rfl (fun w h => (h.own 1 rfl)) (show n < ([(⟨.pointer (some ⟨b3, 1, none⟩)⟩ : RV), (⟨.pointer (some ⟨b3, 2, none⟩)⟩ : RV), (⟨.pointer (some ⟨b3, 3, none⟩)⟩ : RV)]).length from (by first | omega | (simp only [lens9]; omega))) (Nat.le_of_ble_eq_true rfl) rfl) (congrArg RV.v (ix_Bk (⟨0, 0, 0, 0⟩ : Ins) b3 n (by omega)))) 8 rfl rfl rfl rfl rfl rfl fun a hg => Or.inl (⟨un rfl ν11, un rfl ν13, hg, ς⟩)
       ·exact no_way (cA hcl 11 8 rfl ν11) hSi
       ·exact no_way (cA hcl 11 8 rfl ν11) hSi
      ·obtain rfl : _ = o := Option.some.inj ho
       have hd8 : S 8 = true := depAt hdep 0 rfl rfl
       rcases hI with ⟨ν11, ν13, φ, ς⟩ | ⟨ν11, _⟩ | ⟨ν11, _⟩
       ·exact sq φ (Fr.cons φ.fr0 (φ.at_ 8 8 102 _ rfl hd8)) ς (r_nil rfl rfl) 9 rfl rfl rfl rfl rfl rfl fun a hg => Or.inl (⟨un rfl ν11, un rfl ν13, hg, ς⟩)
       ·exact no_way (cA hcl 11 9 rfl ν11) hSi
       ·exact no_way (cA hcl 11 9 rfl ν11) hSi
      ·obtain rfl : _ = o := Option.some.inj ho
       have hd9 : S 9 = true := depAt hdep 0 rfl rfl
       rcases hI with ⟨ν11, ν13, φ, ς⟩ | ⟨ν11, _⟩ | ⟨ν11, _⟩
       ·exact sq φ (Fr.cons φ.fr0 (φ.at_ 9 9 103 _ rfl hd9)) ς (r_ldBk (i := 4) (x := y) (k := n) ti_3 rfl rfl rfl (show n < 3 from (by omega))) 10 rfl rfl rfl rfl rfl rfl fun a hg => Or.inl (⟨un rfl ν11, un rfl ν13, hg, ς⟩)
       ·exact no_way (cA hcl 11 10 rfl ν11) hSi
       ·exact no_way (cA hcl 11 10 rfl ν11) hSi
      ·obtain rfl : _ = o := Option.some.inj ho
       have hd4 : S 4 = true := depAt hdep 0 rfl rfl
       have hd10 : S 10 = true := depAt hdep 1 rfl rfl
       rcases hI with ⟨ν11, ν13, φ, ς⟩ | ⟨ν11, _⟩ | ⟨ν11, _⟩
       ·have hs := St.mk (Fr.cons (Fr.cons φ.fr0 (φ.at_ 4 4 98 _ rfl hd4)) (φ.at_ 10 10 104 _ rfl hd10)) ς
        refine step_ex (x_call hs bd_106 rfl rfl rfl rfl rfl (reg_c g cl p (nth [y.a, y.b, y.c] n) 6 _ (hs.sh.rblk 5 rfl) (hs.sh.at 6 rfl) (by have h9 := pf_reg hy (by assumption) (by assumption) (by assumption); rw [h9]; omega))) (wanted_none rfl _) ?_
        rintro a140 w140 ⟨_, ⟨rfl, hs140⟩, hf140⟩ ⟨v0, ht140⟩
        have h140 : St 134 (fun _ => False) W a140 w140 _ _ := ⟨hf140, hs.sh.call0 hs140⟩
        clear hf140 hs140
        exact Or.inr (Or.inl (⟨upd_self _ _, un rfl ν13, φ.stepW hcl hSi [0, 1, 2, 3, 4, 5, 6, 7, 8, 9, 10] (by kernel_rfl) (by kernel_rfl) ht140 h140.fr.defers (h140.fr.at_ 105 _ rfl) 11 rfl rfl rfl rfl, (h140.sh.sel (L' := [.iter b85 (kindsB x.op) (n + 1), .own 171 (⟨v76, [(⟨.pointer (some ⟨b3, 1, none⟩)⟩ : RV), (⟨.pointer (some ⟨b3, 2, none⟩)⟩ : RV), (⟨.pointer (some ⟨b3, 3, none⟩)⟩ : RV)]⟩ : Ls RV), .mapO (some g19) il, .own 3 (⟨s7001.v, rdG x⟩ : Ls Int), .blk b3 32 [.int .i64 y.op, .int .i64 y.a, .int .i64 y.b, .int .i64 y.c], .rblk g 85 [cl.v, .map p], .at_ cl, .ro [.mapO p ml], .own 32 (⟨vo, ol⟩ : Ls Ins)]) [0, 1, 2, 3, 4, 5, 6, 7, 8] (by decide) ⟨rfl, rfl, rfl, rfl, rfl, rfl, rfl, rfl, rfl, trivial⟩)⟩))
       ·exact no_way ν11 hSi
       ·exact no_way ν11 hSi
      ·obtain rfl : _ = o := Option.some.inj ho
       have hd3 : S 3 = true := depAt hdep 0 rfl rfl
       have hd11 : S 11 = true := depAt hdep 12 rfl rfl
       rcases hI with ⟨ν11, _⟩ | ⟨ν11, ν13, φ, ς⟩ | ⟨_, ν13, _⟩
       ·exact no_way hd11 ν11
       ·exact sq φ (Fr.cons φ.fr0 (φ.at_ 3 3 97 _ rfl hd3)) ς (r_nil rfl rfl) 12 rfl rfl rfl rfl rfl rfl fun a hg => Or.inr (Or.inl (⟨un rfl ν11, un rfl ν13, hg, ς⟩))
       ·exact no_way (cA hcl 13 12 rfl ν13) hSi
      ·obtain rfl : _ = o := Option.some.inj ho
       have hd12 : S 12 = true := depAt hdep 0 rfl rfl
       have hd11 : S 11 = true := depAt hdep 1 rfl rfl
       rcases hI with ⟨ν11, _⟩ | ⟨ν11, ν13, φ, ς⟩ | ⟨_, ν13, _⟩
       ·exact no_way hd11 ν11
       ·have hs := St.mk (Fr.cons (Fr.cons φ.fr0 (φ.at_ 11 11 105 _ rfl hd11)) (φ.at_ 12 12 106 _ rfl hd12)) ς
        refine step_ex (x_stBk (i := 4) (x := y) (k := n) (v := colr cl.l (nth [y.a, y.b, y.c] n) 6) hs ti_3 rfl rfl rfl rfl rfl (show n < 3 from (by omega))) (wanted_none rfl _) ?_
        rintro a142 w142 h142 ⟨v0, ht142⟩
        exact Or.inr (Or.inr (⟨un rfl ν11, upd_self _ _, φ.noneW hcl hSi [0, 1, 2, 3, 4, 5, 6, 7, 8, 9, 10, 11, 12] (by kernel_rfl) (by kernel_rfl) ht142 h142.fr.defers rfl, (h142.sh.sel (L' := [.iter b85 (kindsB x.op) (n + 1), .own 171 (⟨v76, [(⟨.pointer (some ⟨b3, 1, none⟩)⟩ : RV), (⟨.pointer (some ⟨b3, 2, none⟩)⟩ : RV), (⟨.pointer (some ⟨b3, 3, none⟩)⟩ : RV)]⟩ : Ls RV), .mapO (some g19) il, .own 3 (⟨s7001.v, rdG x⟩ : Ls Int), .blk b3 32 [.int .i64 ((putK y n (colr cl.l (nth [y.a, y.b, y.c] n) 6)).op), .int .i64 ((putK y n (colr cl.l (nth [y.a, y.b, y.c] n) 6)).a), .int .i64 ((putK y n (colr cl.l (nth [y.a, y.b, y.c] n) 6)).b), .int .i64 ((putK y n (colr cl.l (nth [y.a, y.b, y.c] n) 6)).c)], .rblk g 85 [cl.v, .map p], .at_ cl, .ro [.mapO p ml], .own 32 (⟨vo, ol⟩ : Ls Ins)]) [0, 1, 2, 3, 4, 5, 6, 7, 8] (by decide) ⟨rfl, rfl, rfl, rfl, rfl, rfl, rfl, rfl, rfl, trivial⟩)⟩))
       ·exact no_way ν13 hSi
      · simp at ho
     intro S hall a w hI
     clear h117
     rcases hI with ⟨ν11, ν13, φ, ς⟩ | ⟨ν11, ν13, φ, ς⟩ | ⟨ν11, ν13, φ, ς⟩
     · exact no_way (hall 11 (by decide)) ν11
     · exact no_way (hall 13 (by decide)) ν13
     have h143 : St 134 (fun _ => False) W a w _ [.iter b85 (kindsB x.op) (n + 1), .own 171 (⟨v76, [(⟨.pointer (some ⟨b3, 1, none⟩)⟩ : RV), (⟨.pointer (some ⟨b3, 2, none⟩)⟩ : RV), (⟨.pointer (some ⟨b3, 3, none⟩)⟩ : RV)]⟩ : Ls RV), .mapO (some g19) il, .own 3 (⟨s7001.v, rdG x⟩ : Ls Int), .blk b3 32 [.int .i64 ((putK y n (colr cl.l (nth [y.a, y.b, y.c] n) 6)).op), .int .i64 ((putK y n (colr cl.l (nth [y.a, y.b, y.c] n) 6)).a), .int .i64 ((putK y n (colr cl.l (nth [y.a, y.b, y.c] n) 6)).b), .int .i64 ((putK y n (colr cl.l (nth [y.a, y.b, y.c] n) 6)).c)], .rblk g 85 [cl.v, .map p], .at_ cl, .ro [.mapO p ml], .own 32 (⟨vo, ol⟩ : Ls Ins)] := ⟨φ.fr0, ς⟩
     clear hall φ ς ν11 ν13
     change ∃ _m, _m < _ ∧ _
     refine ⟨_, ?_, (n + 1), k2, (putK y n (colr cl.l (nth [y.a, y.b, y.c] n) 6)), ?_, ?_, ?_, h143.nrm ⟨rfl, rfl, rfl, rfl, rfl, rfl, rfl, rfl, trivial⟩ [0, 1, 2, 3, 4, 5, 6, 7, 8] (by decide) ⟨rfl, rfl, rfl, rfl, rfl, rfl, rfl, rfl, rfl, trivial⟩, rfl⟩
     · rw [hm86]; first | omega | (simp only [lens9]; omega)
     · omega
     · omega
     · first | exact pf_w hy (by rw [kAt_at (by assumption)]; first | assumption | omega) (by assumption) (by assumption) (by assumption) | exact pf_r hy (by rw [kAt_at (by assumption)]; first | assumption | omega) (by omega) | exact pt_n hy (by rw [kAt_at (by assumption)]; first | assumption | omega)
    have hp116 : ¬ (y.op ≠ 13) := of_decide_eq_false hb116
    refine wp_seq_k fun K144 hK144 => x_tail 8 [] (by kernel_rfl) (by kernel_rfl) h115 fun Z145 hZ145 => ?_
    have hq145 := h115.fr
    refine wq_val hq145 (r_move rfl rfl) (wanted_none rfl _) rfl rfl fun a146 hq146 => wq_val hq146 (r_move rfl rfl) (wanted_none rfl _) rfl rfl fun a147 hq147 => ?_; clear hq145 hq146
    have hl148 : ([(⟨.pointer (some ⟨b3, 1, none⟩)⟩ : RV), (⟨.pointer (some ⟨b3, 2, none⟩)⟩ : RV), (⟨.pointer (some ⟨b3, 3, none⟩)⟩ : RV)]).length ≤ 140737488355328 := (h115.sh.own 1 rfl).len
    refine wq_val hq147 (r_ixN (s := (⟨v76, [(⟨.pointer (some ⟨b3, 1, none⟩)⟩ : RV), (⟨.pointer (some ⟨b3, 2, none⟩)⟩ : RV), (⟨.pointer (some ⟨b3, 3, none⟩)⟩ : RV)]⟩ : Ls RV)) (q := n) sl_172 ti_171 rfl rfl rfl (fun w h => (h.own 1 rfl)) (show n < ([(⟨.pointer (some ⟨b3, 1, none⟩)⟩ : RV), (⟨.pointer (some ⟨b3, 2, none⟩)⟩ : RV), (⟨.pointer (some ⟨b3, 3, none⟩)⟩ : RV)]).length from (by first | omega | (simp only [lens9]; omega)))) (wanted_none rfl _) rfl rfl fun a149 hq149 => wq_val hq149 (Rn.same (r_lde (s := (⟨v76, [(⟨.pointer (some ⟨b3, 1, none⟩)⟩ : RV), (⟨.pointer (some ⟨b3, 2, none⟩)⟩ : RV), (⟨.pointer (some ⟨b3, 3, none⟩)⟩ : RV)]⟩ : Ls RV)) (i := n) (v := ((nth ([(⟨.pointer (some ⟨b3, 1, none⟩)⟩ : RV), (⟨.pointer (some ⟨b3, 2, none⟩)⟩ : RV), (⟨.pointer (some ⟨b3, 3, none⟩)⟩ : RV)]) n).v)) ti_171 rfl rfl rfl (fun w h => (h.own 1 rfl)) (show n < ([(⟨.pointer (some ⟨b3, 1, none⟩)⟩ : RV), (⟨.pointer (some ⟨b3, 2, none⟩)⟩ : RV), (⟨.pointer (some ⟨b3, 3, none⟩)⟩ : RV)]).length from (by first | omega | (simp only [lens9]; omega))) (Nat.le_of_ble_eq_true rfl) rfl) (congrArg RV.v (ix_Bk (⟨0, 0, 0, 0⟩ : Ins) b3 n (by omega)))) (wanted_none rfl _) rfl rfl fun a150 hq150 => wq_val hq150 (r_move rfl rfl) (wanted_none rfl _) rfl rfl fun a151 hq151 => wq_val hq151 (r_move rfl rfl) (wanted_none rfl _) rfl rfl fun a152 hq152 => wq_val hq152 (r_lookZ0 (i := 2) (k := ((k2 : Nat) : Int)) (l := il) mz_80 rfl rfl rfl rfl) (wanted_none rfl _) rfl rfl fun a153 hq153 => wq_val hq153 (r_nil rfl rfl) (wanted_none rfl _) rfl rfl fun a154 hq154 => wpQuiet_nil (hZ145 _ fun w155 hw155 => ?_); clear hq147 hq149 hq150 hq151 hq152 hq153
    have h155 : St 134 (fun _ => False) W a154 w155 _ _ := ⟨hq154, hw155⟩
    clear hq154 hw155 h115
    refine wl_ex (x_stBk (i := 4) (x := y) (k := n) (v := (getZ ((k2 : Nat) : Int) il).getD 0) h155 ti_3 rfl rfl rfl rfl rfl (show n < 3 from (by omega))) (wanted_none rfl _) ?_
    rintro a156 w156 h156
    clear h155
    refine wpList_nil <| hK144 _ _ ?_
    have h157 : St 134 (fun _ => False) W a156 w156 [(0, .pointer (some ⟨g, 0, none⟩)), (5, .pointer (some ⟨b3, 0, none⟩)), (7, vo), (9, .int .i64 (wrG x)), (10, .map (some g19)), (13, v76), (14, .int .i64 ((k2 : Nat) : Int)), (64, .pointer (some ⟨b85, 0, none⟩))] [.iter b85 (kindsB x.op) (n + 1), .own 171 (⟨v76, [(⟨.pointer (some ⟨b3, 1, none⟩)⟩ : RV), (⟨.pointer (some ⟨b3, 2, none⟩)⟩ : RV), (⟨.pointer (some ⟨b3, 3, none⟩)⟩ : RV)]⟩ : Ls RV), .mapO (some g19) il, .own 3 (⟨s7001.v, rdG x⟩ : Ls Int), .blk b3 32 [.int .i64 ((putK y n ((getZ ((k2 : Nat) : Int) il).getD 0)).op), .int .i64 ((putK y n ((getZ ((k2 : Nat) : Int) il).getD 0)).a), .int .i64 ((putK y n ((getZ ((k2 : Nat) : Int) il).getD 0)).b), .int .i64 ((putK y n ((getZ ((k2 : Nat) : Int) il).getD 0)).c)], .rblk g 85 [cl.v, .map p], .at_ cl, .ro [.mapO p ml], .own 32 (⟨vo, ol⟩ : Ls Ins)] := h156.nrm ⟨rfl, rfl, rfl, rfl, rfl, rfl, rfl, rfl, trivial⟩ [0, 1, 2, 3, 4, 5, 6, 7, 8] (by decide) ⟨rfl, rfl, rfl, rfl, rfl, rfl, rfl, rfl, rfl, trivial⟩
    clear h156
    refine wp_region_lit <| wms 1 h157 rfl fun a158 h158 => wv h158 (r_addN (p := k2) (q := 1) rfl rfl rfl (show k2 + 1 < 9223372036854775808 from (by omega))) rfl rfl fun a159 h159 => wms 1 h159 rfl fun a160 h160 => wpList_nil ?_; clear h157 h158 h159
    change ∃ _m, _m < _ ∧ _
    refine ⟨_, ?_, (n + 1), k2 + 1, (putK y n ((getZ ((k2 : Nat) : Int) il).getD 0)), ?_, ?_, ?_, h160.nrm ⟨rfl, rfl, rfl, rfl, rfl, rfl, rfl, rfl, trivial⟩ [0, 1, 2, 3, 4, 5, 6, 7, 8] (by decide) ⟨rfl, rfl, rfl, rfl, rfl, rfl, rfl, rfl, rfl, trivial⟩, rfl⟩
    · rw [hm86]; first | omega | (simp only [lens9]; omega)
    · omega
    · omega
    · first | exact pf_w hy (by rw [kAt_at (by assumption)]; first | assumption | omega) (by assumption) (by assumption) (by assumption) | exact pf_r hy (by rw [kAt_at (by assumption)]; first | assumption | omega) (by omega) | exact pt_n hy (by rw [kAt_at (by assumption)]; first | assumption | omega)
   have hp110 : ¬ (0 ≤ wrG x) := of_decide_eq_false hb110
   refine wl_skip h109 (wanted_no h109.fr rfl rfl rfl rfl hb110) rfl rfl fun a161 h161 => wl_skip h161 (wanted_no h161.fr rfl rfl rfl rfl hb110) rfl rfl fun a162 h162 => wl_skip h162 (wanted_no h162.fr rfl rfl rfl rfl hb110) rfl rfl fun a163 h163 => wv h163 (r_pickF rfl rfl hb110 rfl) rfl rfl fun a164 h164 => wms 1 h164 rfl fun a165 h165 => wpList_nil <| hK101 _ _ <| x_condF h165 rfl rfl <| wp_seq_k fun K166 hK166 => x_tail 8 [] (by kernel_rfl) (by kernel_rfl) h165 fun Z167 hZ167 => ?_; clear h109 h161 h162 h163 h164
   have hq167 := h165.fr
   refine wq_val hq167 (r_move rfl rfl) (wanted_none rfl _) rfl rfl fun a168 hq168 => wq_val hq168 (r_move rfl rfl) (wanted_none rfl _) rfl rfl fun a169 hq169 => ?_; clear hq167 hq168
   have hl170 : ([(⟨.pointer (some ⟨b3, 1, none⟩)⟩ : RV), (⟨.pointer (some ⟨b3, 2, none⟩)⟩ : RV), (⟨.pointer (some ⟨b3, 3, none⟩)⟩ : RV)]).length ≤ 140737488355328 := (h165.sh.own 1 rfl).len
   refine wq_val hq169 (r_ixN (s := (⟨v76, [(⟨.pointer (some ⟨b3, 1, none⟩)⟩ : RV), (⟨.pointer (some ⟨b3, 2, none⟩)⟩ : RV), (⟨.pointer (some ⟨b3, 3, none⟩)⟩ : RV)]⟩ : Ls RV)) (q := n) sl_172 ti_171 rfl rfl rfl (fun w h => (h.own 1 rfl)) (show n < ([(⟨.pointer (some ⟨b3, 1, none⟩)⟩ : RV), (⟨.pointer (some ⟨b3, 2, none⟩)⟩ : RV), (⟨.pointer (some ⟨b3, 3, none⟩)⟩ : RV)]).length from (by first | omega | (simp only [lens9]; omega)))) (wanted_none rfl _) rfl rfl fun a171 hq171 => wq_val hq171 (Rn.same (r_lde (s := (⟨v76, [(⟨.pointer (some ⟨b3, 1, none⟩)⟩ : RV), (⟨.pointer (some ⟨b3, 2, none⟩)⟩ : RV), (⟨.pointer (some ⟨b3, 3, none⟩)⟩ : RV)]⟩ : Ls RV)) (i := n) (v := ((nth ([(⟨.pointer (some ⟨b3, 1, none⟩)⟩ : RV), (⟨.pointer (some ⟨b3, 2, none⟩)⟩ : RV), (⟨.pointer (some ⟨b3, 3, none⟩)⟩ : RV)]) n).v)) ti_171 rfl rfl rfl (fun w h => (h.own 1 rfl)) (show n < ([(⟨.pointer (some ⟨b3, 1, none⟩)⟩ : RV), (⟨.pointer (some ⟨b3, 2, none⟩)⟩ : RV), (⟨.pointer (some ⟨b3, 3, none⟩)⟩ : RV)]).length from (by first | omega | (simp only [lens9]; omega))) (Nat.le_of_ble_eq_true rfl) rfl) (congrArg RV.v (ix_Bk (⟨0, 0, 0, 0⟩ : Ins) b3 n (by omega)))) (wanted_none rfl _) rfl rfl fun a172 hq172 => wq_val hq172 (r_move rfl rfl) (wanted_none rfl _) rfl rfl fun a173 hq173 => wq_val hq173 (r_move rfl rfl) (wanted_none rfl _) rfl rfl fun a174 hq174 => wq_val hq174 (r_lookZ0 (i := 2) (k := ((k2 : Nat) : Int)) (l := il) mz_80 rfl rfl rfl rfl) (wanted_none rfl _) rfl rfl fun a175 hq175 => wq_val hq175 (r_nil rfl rfl) (wanted_none rfl _) rfl rfl fun a176 hq176 => wpQuiet_nil (hZ167 _ fun w177 hw177 => ?_); clear hq169 hq171 hq172 hq173 hq174 hq175
   have h177 : St 134 (fun _ => False) W a176 w177 _ _ := ⟨hq176, hw177⟩
   clear hq176 hw177 h165
   refine wl_ex (x_stBk (i := 4) (x := y) (k := n) (v := (getZ ((k2 : Nat) : Int) il).getD 0) h177 ti_3 rfl rfl rfl rfl rfl (show n < 3 from (by omega))) (wanted_none rfl _) ?_
   rintro a178 w178 h178
   clear h177
   refine wpList_nil <| hK166 _ _ ?_
   have h179 : St 134 (fun _ => False) W a178 w178 [(0, .pointer (some ⟨g, 0, none⟩)), (5, .pointer (some ⟨b3, 0, none⟩)), (7, vo), (9, .int .i64 (wrG x)), (10, .map (some g19)), (13, v76), (14, .int .i64 ((k2 : Nat) : Int)), (64, .pointer (some ⟨b85, 0, none⟩))] [.iter b85 (kindsB x.op) (n + 1), .own 171 (⟨v76, [(⟨.pointer (some ⟨b3, 1, none⟩)⟩ : RV), (⟨.pointer (some ⟨b3, 2, none⟩)⟩ : RV), (⟨.pointer (some ⟨b3, 3, none⟩)⟩ : RV)]⟩ : Ls RV), .mapO (some g19) il, .own 3 (⟨s7001.v, rdG x⟩ : Ls Int), .blk b3 32 [.int .i64 ((putK y n ((getZ ((k2 : Nat) : Int) il).getD 0)).op), .int .i64 ((putK y n ((getZ ((k2 : Nat) : Int) il).getD 0)).a), .int .i64 ((putK y n ((getZ ((k2 : Nat) : Int) il).getD 0)).b), .int .i64 ((putK y n ((getZ ((k2 : Nat) : Int) il).getD 0)).c)], .rblk g 85 [cl.v, .map p], .at_ cl, .ro [.mapO p ml], .own 32 (⟨vo, ol⟩ : Ls Ins)] := h178.nrm ⟨rfl, rfl, rfl, rfl, rfl, rfl, rfl, rfl, trivial⟩ [0, 1, 2, 3, 4, 5, 6, 7, 8] (by decide) ⟨rfl, rfl, rfl, rfl, rfl, rfl, rfl, rfl, rfl, trivial⟩
   clear h178
   refine wp_region_lit <| wms 1 h179 rfl fun a180 h180 => wv h180 (r_addN (p := k2) (q := 1) rfl rfl rfl (show k2 + 1 < 9223372036854775808 from (by omega))) rfl rfl fun a181 h181 => wms 1 h181 rfl fun a182 h182 => wpList_nil ?_; clear h179 h180 h181
   change ∃ _m, _m < _ ∧ _
   refine ⟨_, ?_, (n + 1), k2 + 1, (putK y n ((getZ ((k2 : Nat) : Int) il).getD 0)), ?_, ?_, ?_, h182.nrm ⟨rfl, rfl, rfl, rfl, rfl, rfl, rfl, rfl, trivial⟩ [0, 1, 2, 3, 4, 5, 6, 7, 8] (by decide) ⟨rfl, rfl, rfl, rfl, rfl, rfl, rfl, rfl, rfl, trivial⟩, rfl⟩
   · rw [hm86]; first | omega | (simp only [lens9]; omega)
   · omega
   · omega
   · first | exact pf_w hy (by rw [kAt_at (by assumption)]; first | assumption | omega) (by assumption) (by assumption) (by assumption) | exact pf_r hy (by rw [kAt_at (by assumption)]; first | assumption | omega) (by omega) | exact pt_n hy (by rw [kAt_at (by assumption)]; first | assumption | omega)
  have hp105 : ¬ (n = 0) := of_decide_eq_false hb105
  refine wl_skip h104 (wanted_no h104.fr rfl rfl rfl rfl hb105) rfl rfl fun a183 h183 => wl_skip h183 (wanted_no h183.fr rfl rfl rfl rfl hb105) rfl rfl fun a184 h184 => wv h184 (r_pickF rfl rfl hb105 rfl) rfl rfl fun a185 h185 => wms 1 h185 rfl fun a186 h186 => wl_skip h186 (wanted_no h186.fr rfl rfl rfl rfl rfl) rfl rfl fun a187 h187 => wl_skip h187 (wanted_no h187.fr rfl rfl rfl rfl rfl) rfl rfl fun a188 h188 => wl_skip h188 (wanted_no h188.fr rfl rfl rfl rfl rfl) rfl rfl fun a189 h189 => wv h189 (r_pickF rfl rfl rfl rfl) rfl rfl fun a190 h190 => wms 1 h190 rfl fun a191 h191 => wpList_nil <| hK101 _ _ <| x_condF h191 rfl rfl <| wp_seq_k fun K192 hK192 => x_tail 8 [] (by kernel_rfl) (by kernel_rfl) h191 fun Z193 hZ193 => ?_; clear h104 h183 h184 h185 h186 h187 h188 h189 h190
  have hq193 := h191.fr
  refine wq_val hq193 (r_move rfl rfl) (wanted_none rfl _) rfl rfl fun a194 hq194 => wq_val hq194 (r_move rfl rfl) (wanted_none rfl _) rfl rfl fun a195 hq195 => ?_; clear hq193 hq194
  have hl196 : ([(⟨.pointer (some ⟨b3, 1, none⟩)⟩ : RV), (⟨.pointer (some ⟨b3, 2, none⟩)⟩ : RV), (⟨.pointer (some ⟨b3, 3, none⟩)⟩ : RV)]).length ≤ 140737488355328 := (h191.sh.own 1 rfl).len
  refine wq_val hq195 (r_ixN (s := (⟨v76, [(⟨.pointer (some ⟨b3, 1, none⟩)⟩ : RV), (⟨.pointer (some ⟨b3, 2, none⟩)⟩ : RV), (⟨.pointer (some ⟨b3, 3, none⟩)⟩ : RV)]⟩ : Ls RV)) (q := n) sl_172 ti_171 rfl rfl rfl (fun w h => (h.own 1 rfl)) (show n < ([(⟨.pointer (some ⟨b3, 1, none⟩)⟩ : RV), (⟨.pointer (some ⟨b3, 2, none⟩)⟩ : RV), (⟨.pointer (some ⟨b3, 3, none⟩)⟩ : RV)]).length from (by first | omega | (simp only [lens9]; omega)))) (wanted_none rfl _) rfl rfl fun a197 hq197 => wq_val hq197 (Rn.same (r_lde (s := (⟨v76, [(⟨.pointer (some ⟨b3, 1, none⟩)⟩ : RV), (⟨.pointer (some ⟨b3, 2, none⟩)⟩ : RV), (⟨.pointer (some ⟨b3, 3, none⟩)⟩ : RV)]⟩ : Ls RV)) (i := n) (v := ((nth ([(⟨.pointer (some ⟨b3, 1, none⟩)⟩ : RV), (⟨.pointer (some ⟨b3, 2, none⟩)⟩ : RV), (⟨.pointer (some ⟨b3, 3, none⟩)⟩ : RV)]) n).v)) ti_171 rfl rfl rfl (fun w h => (h.own 1 rfl)) (show n < ([(⟨.pointer (some ⟨b3, 1, none⟩)⟩ : RV), (⟨.pointer (some ⟨b3, 2, none⟩)⟩ : RV), (⟨.pointer (some ⟨b3, 3, none⟩)⟩ : RV)]).length from (by first | omega | (simp only [lens9]; omega))) (Nat.le_of_ble_eq_true rfl) rfl) (congrArg RV.v (ix_Bk (⟨0, 0, 0, 0⟩ : Ins) b3 n (by omega)))) (wanted_none rfl _) rfl rfl fun a198 hq198 => wq_val hq198 (r_move rfl rfl) (wanted_none rfl _) rfl rfl fun a199 hq199 => wq_val hq199 (r_move rfl rfl) (wanted_none rfl _) rfl rfl fun a200 hq200 => wq_val hq200 (r_lookZ0 (i := 2) (k := ((k2 : Nat) : Int)) (l := il) mz_80 rfl rfl rfl rfl) (wanted_none rfl _) rfl rfl fun a201 hq201 => wq_val hq201 (r_nil rfl rfl) (wanted_none rfl _) rfl rfl fun a202 hq202 => wpQuiet_nil (hZ193 _ fun w203 hw203 => ?_); clear hq195 hq197 hq198 hq199 hq200 hq201
  have h203 : St 134 (fun _ => False) W a202 w203 _ _ := ⟨hq202, hw203⟩
  clear hq202 hw203 h191
  refine wl_ex (x_stBk (i := 4) (x := y) (k := n) (v := (getZ ((k2 : Nat) : Int) il).getD 0) h203 ti_3 rfl rfl rfl rfl rfl (show n < 3 from (by omega))) (wanted_none rfl _) ?_
  rintro a204 w204 h204
  clear h203
  refine wpList_nil <| hK192 _ _ ?_
  have h205 : St 134 (fun _ => False) W a204 w204 [(0, .pointer (some ⟨g, 0, none⟩)), (5, .pointer (some ⟨b3, 0, none⟩)), (7, vo), (9, .int .i64 (wrG x)), (10, .map (some g19)), (13, v76), (14, .int .i64 ((k2 : Nat) : Int)), (64, .pointer (some ⟨b85, 0, none⟩))] [.iter b85 (kindsB x.op) (n + 1), .own 171 (⟨v76, [(⟨.pointer (some ⟨b3, 1, none⟩)⟩ : RV), (⟨.pointer (some ⟨b3, 2, none⟩)⟩ : RV), (⟨.pointer (some ⟨b3, 3, none⟩)⟩ : RV)]⟩ : Ls RV), .mapO (some g19) il, .own 3 (⟨s7001.v, rdG x⟩ : Ls Int), .blk b3 32 [.int .i64 ((putK y n ((getZ ((k2 : Nat) : Int) il).getD 0)).op), .int .i64 ((putK y n ((getZ ((k2 : Nat) : Int) il).getD 0)).a), .int .i64 ((putK y n ((getZ ((k2 : Nat) : Int) il).getD 0)).b), .int .i64 ((putK y n ((getZ ((k2 : Nat) : Int) il).getD 0)).c)], .rblk g 85 [cl.v, .map p], .at_ cl, .ro [.mapO p ml], .own 32 (⟨vo, ol⟩ : Ls Ins)] := h204.nrm ⟨rfl, rfl, rfl, rfl, rfl, rfl, rfl, rfl, trivial⟩ [0, 1, 2, 3, 4, 5, 6, 7, 8] (by decide) ⟨rfl, rfl, rfl, rfl, rfl, rfl, rfl, rfl, rfl, trivial⟩
  clear h204
  refine wp_region_lit <| wms 1 h205 rfl fun a206 h206 => wv h206 (r_addN (p := k2) (q := 1) rfl rfl rfl (show k2 + 1 < 9223372036854775808 from (by omega))) rfl rfl fun a207 h207 => wms 1 h207 rfl fun a208 h208 => wpList_nil ?_; clear h205 h206 h207
  change ∃ _m, _m < _ ∧ _
  refine ⟨_, ?_, (n + 1), k2 + 1, (putK y n ((getZ ((k2 : Nat) : Int) il).getD 0)), ?_, ?_, ?_, h208.nrm ⟨rfl, rfl, rfl, rfl, rfl, rfl, rfl, rfl, trivial⟩ [0, 1, 2, 3, 4, 5, 6, 7, 8] (by decide) ⟨rfl, rfl, rfl, rfl, rfl, rfl, rfl, rfl, rfl, trivial⟩, rfl⟩
  · rw [hm86]; first | omega | (simp only [lens9]; omega)
  · omega
  · omega
  · first | exact pf_w hy (by rw [kAt_at (by assumption)]; first | assumption | omega) (by assumption) (by assumption) (by assumption) | exact pf_r hy (by rw [kAt_at (by assumption)]; first | assumption | omega) (by omega) | exact pt_n hy (by rw [kAt_at (by assumption)]; first | assumption | omega)
 refine wv h86 (r_nextEnd (i := 0) (s := (kindsB x.op)) (pos := n) rfl rfl rfl hn88) rfl rfl fun a209 h209 => wv h209 (r_extract rfl rfl rfl) rfl rfl fun a210 h210 => wpList_nil <| hK87 _ _ <| wp_seq_k fun K211 hK211 => x_condF h210 rfl rfl <| wp_exit <| hK80 _ _ <| wp_seq_k fun K212 hK212 => wp_region_lit <| wms 1 h210 rfl fun a213 h213 => wv h213 (r_ldbw (i := 4) (vs := [.int .i64 y.op, .int .i64 y.a, .int .i64 y.b, .int .i64 y.c]) ti_32 rfl rfl rfl rfl rfl) rfl rfl fun a214 h214 => wl_ex (x_lit (n := 1) (cs := [.int .i64 y.op, .int .i64 y.a, .int .i64 y.b, .int .i64 y.c]) ([y] : List Ins) h214 sl_33 ti_32 rfl rfl rfl (by decide) rfl (by kernel_rfl) rfl (fun q hq w h => Flat.inner _ _) (fun q hq b hb => (Flat.on _ _ hb).elim) rfl rfl) (wanted_none rfl _) ?_; clear h86 h209 h210 h213
 rintro a215 w215 ⟨v215, h215⟩; clear h214
 refine wl_ex (x_app (r := 9) (rm := 0) (s := (⟨vo, ol⟩ : Ls Ins)) (m := (⟨v215, [y]⟩ : Ls Ins)) h215 sl_33 ti_32 rfl rfl rfl rfl rfl rfl rfl (fun w h => (h.own 0 rfl)) (fun b hb => own_on (h215.sh.ok _ (List.mem_of_getElem? (i := 0) rfl)) hb) (fun q hq b hb => ⟨q, hq, hb⟩) rfl rfl rfl inferInstance (show (ol.length + ([y]).length) * 32 ≤ 140737488355328 ∧ ol.length + ([y]).length ≤ 140737488355328 from (by first | omega | (simp only [lens9]; omega))) rfl rfl) (wanted_none rfl _) ?_
 rintro a216 w216 ⟨v216, h216⟩; clear h215
 refine wms 1 h216 rfl fun a217 h217 => wpList_nil <| hK212 _ _ <| wp_seq_k fun K218 hK218 => wp_seq_k fun K219 hK219 => wp_region_lit <| wms 1 h217 rfl fun a220 h220 => wv h220 (r_geqI (p := wrG x) (q := 0) rfl rfl rfl) rfl rfl fun a221 h221 => wms 1 h221 rfl fun a222 h222 => ?_; clear h216 h217 h220 h221
 rcases Bool.eq_false_or_eq_true (decide (0 ≤ wrG x)) with hb223 | hb223
 ·have hp223 : 0 ≤ wrG x := of_decide_eq_true hb223
  refine wl_val h222 (r_move rfl rfl) (wanted_yes h222.fr rfl rfl rfl rfl hb223) rfl rfl fun a224 h224 => wl_val h224 (r_nil rfl rfl) (wanted_yes h224.fr rfl rfl rfl rfl hb223) rfl rfl fun a225 h225 => wl_val h225 (r_fieldB (r := 0) fl_85_0 rfl rfl rfl) (wanted_yes h225.fr rfl rfl rfl rfl hb223) rfl rfl fun a226 h226 => wl_val h226 (r_ldbR ti_23 rfl rfl (fun w h => h.rblk 6 rfl) rfl) (wanted_yes h226.fr rfl rfl rfl rfl hb223) rfl rfl fun a227 h227 => wl_val h227 (r_move rfl rfl) (wanted_yes h227.fr rfl rfl rfl rfl hb223) rfl rfl fun a228 h228 => ?_; clear h222 h224 h225 h226 h227
  have hl229 : cl.l.length ≤ 140737488355328 := (h228.sh.at 7 rfl).len
  refine wl_val h228 (r_ixI (s := cl) (q := wrG x) sl_23 ti_3 rfl rfl rfl (fun w h => (h.at 7 rfl)) (show 0 ≤ wrG x ∧ wrG x < cl.l.length from (by omega))) (wanted_yes h228.fr rfl rfl rfl rfl hb223) rfl rfl fun a230 h230 => wl_val h230 (r_lde (s := cl) (i := (wrG x).toNat) (v := .int .i64 (nth cl.l ((wrG x).toNat))) ti_3 rfl rfl rfl (fun w h => (h.at 7 rfl)) (show (wrG x).toNat < cl.l.length from (by omega)) (Nat.le_of_ble_eq_true rfl) rfl) (wanted_yes h230.fr rfl rfl rfl rfl hb223) rfl rfl fun a231 h231 => wl_val h231 (r_lssI (p := nth cl.l ((wrG x).toNat)) (q := 0) rfl rfl rfl) (wanted_yes h231.fr rfl rfl rfl rfl hb223) rfl rfl fun a232 h232 => wv h232 (r_pickT rfl rfl hb223 rfl) rfl rfl fun a233 h233 => wpList_nil <| hK219 _ _ <| x_cond h233 rfl (fun hb234 => ?_) (fun hb234 => ?_); clear h228 h230 h231 h232
  ·have hp234 : nth cl.l ((wrG x).toNat) < 0 := of_decide_eq_true hb234
   refine wp_region_lit <| wms 2 h233 rfl fun a235 h235 => wv h235 (r_nil rfl rfl) rfl rfl fun a236 h236 => wv h236 (r_fieldB (r := 1) fl_85_1 rfl rfl rfl) rfl rfl fun a237 h237 => wv h237 (r_ldbR ti_80 rfl rfl (fun w h => h.rblk 6 rfl) rfl) rfl rfl fun a238 h238 => wms 1 h238 rfl fun a239 h239 => wv h239 (r_lookZ0R (i := 8) (k := (wrG x)) (l := ml) mz_80 rfl rfl rfl rfl) rfl rfl fun a240 h240 => wv h240 (r_build (cs := [.int .i64 9, .int .i64 ((getZ (wrG x) ml).getD 0), .int .i64 6, .int .i64 0]) rfl rfl (by kernel_rfl)) rfl rfl fun a241 h241 => wl_ex (x_lit (n := 1) (cs := [.int .i64 9, .int .i64 ((getZ (wrG x) ml).getD 0), .int .i64 6, .int .i64 0]) ([(⟨9, (getZ (wrG x) ml).getD 0, 6, 0⟩ : Ins)] : List Ins) h241 sl_33 ti_32 rfl rfl rfl (by decide) rfl (by kernel_rfl) rfl (fun q hq w h => Flat.inner _ _) (fun q hq b hb => (Flat.on _ _ hb).elim) rfl rfl) (wanted_none rfl _) ?_; clear h233 h235 h236 h237 h238 h239 h240
   rintro a242 w242 ⟨v242, h242⟩; clear h241
   refine wl_ex (x_app (r := 10) (rm := 0) (s := (⟨v216, ol ++ ([y])⟩ : Ls Ins)) (m := (⟨v242, [(⟨9, (getZ (wrG x) ml).getD 0, 6, 0⟩ : Ins)]⟩ : Ls Ins)) h242 sl_33 ti_32 rfl rfl rfl rfl rfl rfl rfl (fun w h => (h.own 0 rfl)) (fun b hb => own_on (h242.sh.ok _ (List.mem_of_getElem? (i := 0) rfl)) hb) (fun q hq b hb => ⟨q, hq, hb⟩) rfl rfl rfl inferInstance (show ((ol ++ ([y])).length + ([(⟨9, (getZ (wrG x) ml).getD 0, 6, 0⟩ : Ins)]).length) * 32 ≤ 140737488355328 ∧ (ol ++ ([y])).length + ([(⟨9, (getZ (wrG x) ml).getD 0, 6, 0⟩ : Ins)]).length ≤ 140737488355328 from (by first | omega | (simp only [lens9]; omega))) rfl rfl) (wanted_none rfl _) ?_
   rintro a243 w243 ⟨v243, h243⟩; clear h242
   refine wms 1 h243 rfl fun a244 h244 => wpList_nil <| hK218 _ _ ?_; clear h243
   have h245 : St 134 (fun _ => False) W a244 w243 [(7, v243)] [.own 32 (⟨v242, [(⟨9, (getZ (wrG x) ml).getD 0, 6, 0⟩ : Ins)]⟩ : Ls Ins), .own 32 (⟨v215, [y]⟩ : Ls Ins), .iter b85 (kindsB x.op) n, .own 171 (⟨v76, [(⟨.pointer (some ⟨b3, 1, none⟩)⟩ : RV), (⟨.pointer (some ⟨b3, 2, none⟩)⟩ : RV), (⟨.pointer (some ⟨b3, 3, none⟩)⟩ : RV)]⟩ : Ls RV), .mapO (some g19) il, .own 3 (⟨s7001.v, rdG x⟩ : Ls Int), .blk b3 32 [.int .i64 y.op, .int .i64 y.a, .int .i64 y.b, .int .i64 y.c], .rblk g 85 [cl.v, .map p], .at_ cl, .ro [.mapO p ml], .own 32 (⟨v243, (ol ++ ([y])) ++ ([(⟨9, (getZ (wrG x) ml).getD 0, 6, 0⟩ : Ins)])⟩ : Ls Ins)] := h244.nrm ⟨rfl, trivial⟩ [0, 1, 2, 3, 4, 5, 6, 7, 8, 9, 10] (by decide) ⟨rfl, rfl, rfl, rfl, rfl, rfl, rfl, rfl, rfl, rfl, rfl, trivial⟩
   clear h244
   refine wp_seq_k fun K246 hK246 => wp_region_lit <| wms 2 h245 rfl fun a247 h247 => wpList_nil <| hK246 _ _ <| wp_ret ?_; clear h245
   try simp only [Exit.then, Exit.inBlock]
   refine x_ret1 (fn := Try.f55) (t := 6) rfl h247 rfl ?_
   have he9 : (ol ++ ([y])) ++ ([(⟨9, (getZ (wrG x) ml).getD 0, 6, 0⟩ : Ins)]) = paintF cl.l (fun r : Int => (getZ r ml).getD 0) x := by first | exact paintF_1 hil (by omega) hy (by omega) hol (by assumption) (by assumption) | exact paintF_2 hil (by omega) hy (by omega) hol (by omega)
   rw [he9] at h247
   exact ⟨⟨v243, []⟩, rfl, (h247.sh.sel (L' := [_]) [10] (by decide) ⟨rfl, trivial⟩)⟩
  have hp234 : ¬ (nth cl.l ((wrG x).toNat) < 0) := of_decide_eq_false hb234
  refine wp_skip <| hK218 _ _ ?_
  have h248 : St 134 (fun _ => False) W a233 w216 [(7, v216)] [.own 32 (⟨v215, [y]⟩ : Ls Ins), .iter b85 (kindsB x.op) n, .own 171 (⟨v76, [(⟨.pointer (some ⟨b3, 1, none⟩)⟩ : RV), (⟨.pointer (some ⟨b3, 2, none⟩)⟩ : RV), (⟨.pointer (some ⟨b3, 3, none⟩)⟩ : RV)]⟩ : Ls RV), .mapO (some g19) il, .own 3 (⟨s7001.v, rdG x⟩ : Ls Int), .blk b3 32 [.int .i64 y.op, .int .i64 y.a, .int .i64 y.b, .int .i64 y.c], .rblk g 85 [cl.v, .map p], .at_ cl, .ro [.mapO p ml], .own 32 (⟨v216, ol ++ ([y])⟩ : Ls Ins)] := h233.nrm ⟨rfl, trivial⟩ [0, 1, 2, 3, 4, 5, 6, 7, 8, 9] (by decide) ⟨rfl, rfl, rfl, rfl, rfl, rfl, rfl, rfl, rfl, rfl, trivial⟩
  clear h233
  refine wp_seq_k fun K249 hK249 => wp_region_lit <| wms 2 h248 rfl fun a250 h250 => wpList_nil <| hK249 _ _ <| wp_ret ?_; clear h248
  try simp only [Exit.then, Exit.inBlock]
  refine x_ret1 (fn := Try.f55) (t := 6) rfl h250 rfl ?_
  have he9 : ol ++ ([y]) = paintF cl.l (fun r : Int => (getZ r ml).getD 0) x := by first | exact paintF_1 hil (by omega) hy (by omega) hol (by assumption) (by assumption) | exact paintF_2 hil (by omega) hy (by omega) hol (by omega)
  rw [he9] at h250
  exact ⟨⟨v216, []⟩, rfl, (h250.sh.sel (L' := [_]) [9] (by decide) ⟨rfl, trivial⟩)⟩
 have hp223 : ¬ (0 ≤ wrG x) := of_decide_eq_false hb223
 refine wl_skip h222 (wanted_no h222.fr rfl rfl rfl rfl hb223) rfl rfl fun a251 h251 => wl_skip h251 (wanted_no h251.fr rfl rfl rfl rfl hb223) rfl rfl fun a252 h252 => wl_skip h252 (wanted_no h252.fr rfl rfl rfl rfl hb223) rfl rfl fun a253 h253 => wl_skip h253 (wanted_no h253.fr rfl rfl rfl rfl hb223) rfl rfl fun a254 h254 => wl_skip h254 (wanted_no h254.fr rfl rfl rfl rfl hb223) rfl rfl fun a255 h255 => wl_skip h255 (wanted_no h255.fr rfl rfl rfl rfl hb223) rfl rfl fun a256 h256 => wl_skip h256 (wanted_no h256.fr rfl rfl rfl rfl hb223) rfl rfl fun a257 h257 => wl_skip h257 (wanted_no h257.fr rfl rfl rfl rfl hb223) rfl rfl fun a258 h258 => wv h258 (r_pickF rfl rfl hb223 rfl) rfl rfl fun a259 h259 => wpList_nil <| hK219 _ _ <| x_condF h259 rfl rfl <| wp_skip <| hK218 _ _ ?_; clear h222 h251 h252 h253 h254 h255 h256 h257 h258
 have h260 : St 134 (fun _ => False) W a259 w216 [(7, v216)] [.own 32 (⟨v215, [y]⟩ : Ls Ins), .iter b85 (kindsB x.op) n, .own 171 (⟨v76, [(⟨.pointer (some ⟨b3, 1, none⟩)⟩ : RV), (⟨.pointer (some ⟨b3, 2, none⟩)⟩ : RV), (⟨.pointer (some ⟨b3, 3, none⟩)⟩ : RV)]⟩ : Ls RV), .mapO (some g19) il, .own 3 (⟨s7001.v, rdG x⟩ : Ls Int), .blk b3 32 [.int .i64 y.op, .int .i64 y.a, .int .i64 y.b, .int .i64 y.c], .rblk g 85 [cl.v, .map p], .at_ cl, .ro [.mapO p ml], .own 32 (⟨v216, ol ++ ([y])⟩ : Ls Ins)] := h259.nrm ⟨rfl, trivial⟩ [0, 1, 2, 3, 4, 5, 6, 7, 8, 9] (by decide) ⟨rfl, rfl, rfl, rfl, rfl, rfl, rfl, rfl, rfl, rfl, trivial⟩
 clear h259
 refine wp_seq_k fun K261 hK261 => wp_region_lit <| wms 2 h260 rfl fun a262 h262 => wpList_nil <| hK261 _ _ <| wp_ret ?_; clear h260
 try simp only [Exit.then, Exit.inBlock]
 refine x_ret1 (fn := Try.f55) (t := 6) rfl h262 rfl ?_
 have he9 : ol ++ ([y]) = paintF cl.l (fun r : Int => (getZ r ml).getD 0) x := by first | exact paintF_1 hil (by omega) hy (by omega) hol (by assumption) (by assumption) | exact paintF_2 hil (by omega) hy (by omega) hol (by omega)
 rw [he9] at h262
 exact ⟨⟨v216, []⟩, rfl, (h262.sh.sel (L' := [_]) [9] (by decide) ⟨rfl, trivial⟩)⟩

end Go.Proofs.Ytfpaahkleienoaa
