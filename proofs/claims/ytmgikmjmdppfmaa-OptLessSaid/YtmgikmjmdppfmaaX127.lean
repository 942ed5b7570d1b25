/-
  What is ahead of each order: all orders.
-/
import Derived.Test.YtmgikmjmdppfmaaS22
import Derived.Test.YtmgikmjmdppfmaaX126
section
namespace Go.Proofs.Ytmgikmjmdppfmaa
open Go.RowKit
set_option linter.unusedSimpArgs false
set_option linter.unusedVariables false

section
variable {N : Nat} {K : Nat → Prop} {W w : World} {a : Act} {F : List (Nat × Value)} {L : List Asn} {α : Type} [Enc α] [Flat α]
theorem St.trunc (r : Nat) {E : TypeId} {s : Ls α} (h : St N K W a w F L) (hi : L[r]? = some (.own E s)) (j : Nat) (hj : j ≤ s.l.length) (h0 : 0 < s.l.length) : St N K W a w F (L.set r (.own E (⟨vtake s.v j, s.l.take j⟩ : Ls α))) := by
  obtain ⟨⟨h1, h2⟩, h3, h4⟩ := h.sh.ok _ (List.mem_of_getElem? hi)
  have ht : (s.l.take j).length = j := by rw [List.length_take]; omega
  rcases h2 with ⟨_, hn⟩ | ⟨g, cap, cur, hv, hb, hg, hc, hm, hs, he⟩
  · omega
  · have hv2 : vtake s.v j = .slice (some ⟨g, 0, none⟩) j cap := by rw [hv]; rfl
    have hle : j * Enc.sz α ≤ s.l.length * Enc.sz α := Nat.mul_le_mul_right _ hj
    refine ⟨h.fr, h.sh.put hi (Chg.refl _ _) ⟨⟨?_, .inr ⟨g, cap, cur, ?_, hb, hg, ?_, hm, hs, ?_⟩⟩, ?_, ?_⟩ ?_ (fun b hb => absurd hb Flat.noRd) (fun b _ hb => Flat.noRd hb)⟩
    · show (encL (s.l.take j)).length = (s.l.take j).length * _
      rw [encL_take, List.length_take, h1, ht]
      omega
    · show vtake s.v j = .slice _ (s.l.take j).length cap
      rw [hv2, ht]
    · show (s.l.take j).length ≤ cap
      omega
    · show cur.toList.take ((s.l.take j).length * _) = encL (s.l.take j)
      rw [ht, encL_take, ← he, List.take_take, Nat.min_eq_left hle]
    · show (s.l.take j).length ≤ _
      omega
    · intro i hi
      exact Flat.inner _ _
    · intro b hb
      left
      have hb' : (vtake s.v j).ownBlock = some b := hb
      rw [hv2] at hb'
      show s.v.ownBlock = some b
      rw [hv]
      exact hb'
end
section
variable {P : Program} {o : Oper} {N : Nat} {K : Nat → Prop} {W w : World} {a : Act} {F : List (Nat × Value)} {L : List Asn}
end
end Go.Proofs.Ytmgikmjmdppfmaa
end
namespace Go.Proofs.Ytmgikmjmdppfmaa
open Go.RowKit
set_option linter.unusedSimpArgs false
set_option linter.unusedVariables false
set_option maxRecDepth 100000
set_option maxHeartbeats 8000000


theorem EnvC.nil : EnvC 0 [] := ⟨List.nodup_nil, fun k => ⟨fun h => (by cases h), fun h => by omega⟩⟩
theorem EnvC.grow {r t : Nat} {c : List (KA VV)} {v : VV} (h : EnvC r c) : EnvC (r + 1) (putKv ((r : Nat) : Int) v t c) ∧ envL (r + 1) (putKv ((r : Nat) : Int) v t c) = envL r c ++ [v] := by
  have hn : ((r : Nat) : Int) ∉ c.map (·.k) := fun h9 => by have := (h.mem _).1 h9; omega
  have e : (putKv ((r : Nat) : Int) v t c).map (·.k) = c.map (·.k) ++ [((r : Nat) : Int)] := by rw [putKv_keys, if_neg hn]
  refine ⟨⟨?_, fun k => ?_⟩, ?_⟩
  · rw [e, List.nodup_append]
    exact ⟨h.nd, by simp, fun a ha b hb e2 => hn (by rw [← List.mem_singleton.1 hb, ← e2]; exact ha)⟩
  · rw [e, List.mem_append, List.mem_singleton, h.mem]
    omega
  · unfold envL
    rw [List.range_succ, List.map_append]
    congr 1
    · refine List.map_congr_left fun a ha => ?_
      have := List.mem_range.1 ha
      rw [gv_put, if_neg (by omega)]
    · simp [gv_put]
theorem firstE_succ {r : Nat} : firstE (r + 1) = firstE r ++ [⟨1, 0⟩] := List.replicate_succ'
theorem nI_nth {l : List Nat} {i : Nat} (h : i < l.length) : nth (nI l) i = ((nth l i : Nat) : Int) := nth_map' _ _ _ h
theorem nI_take {l : List Nat} {i : Nat} : (nI l).take i = nI (l.take i) := by simp [nI, List.map_take]
theorem last_eq {l : List Nat} (h : 0 < l.length) : l = l.take (l.length - 1) ++ [nth l (l.length - 1)] := by
  have := take_succ_nth l (l.length - 1) (by omega)
  rw [show l.length - 1 + 1 = l.length by omega, List.take_of_length_le (Nat.le_refl _)] at this
  exact this
theorem mu_big {code : List Ins} {R : Nat} {A : AF} (hA : OkA R code.length A) (hl : code.length ≤ 400) (hR : R ≤ 200) : muA R A (code.length + 1) ≤ 200000 := by
  have h1 := mu_max hA (code.length + 1)
  have h2 : (code.length + 1) * (2 * R + 1) ≤ 401 * 401 := Nat.mul_le_mul (by omega) (by omega)
  omega

theorem of_c (code : Ls Ins) (R : Nat) (W : World) (hcode : code.At W) (hov : OkV code.l (R : Int)) (hj : JumpsOK code.l) (hcl : code.l.length ≤ 400) (hR : R ≤ 200) :
    Rets Try.prog 20 [code.v, .int .i64 ((R : Nat) : Int)] W (fun v w' => ∃ (gl ga : Nat) (C : List (KA MA)) (tC : Nat) (wk : Ls Int), v = .pointer (some ⟨gl, 0, none⟩) ∧ Least code.l R (absA R C) ∧ WfC R C ∧ Sh0 W w' [.blk gl 89 [code.v, .map (some ga), wk.v], .big (ahX (some ga) C tC), .own 3 wk]) := by
 refine gen Try.func20 Try.ntmps20 (Sh0.ext1 hcode : Sh (fun _ => False) W W [.at_ code]) rfl fun a10 h10 => gG h10<|sG (oM 1 rfl<|.nl)<|sK fun _ k12 => gRn (oM 1 rfl<|.nl)<|gE1 (fun _ _ h_ => x_makeAh h_ rfl rfl rfl) rfl fun g13 => gRn (oV (r_buildS (cs := [code.v, .map (some g13), (.slice none 0 0)]) rfl rfl (fun w h => by obtain ⟨A14, n14, c14, (e14 : code.v = _)⟩ := ((h.at 1 rfl)).form; rw [e14]; kernel_rfl)) rfl<|.nl)<|gbx rfl rfl fun b15 => gRn (oM 1 rfl<|.nl)<|nK k12<|sK fun _ k16 => gE1 (fun _ _ h_ => x_makeA encV h_ rfl rfl rfl) rfl fun g17 => gRn (oM 1 rfl<|.nl)<|nK k16<|gK fun _ k18 => sG (oM 2 rfl<|.nl)<|gB<|fun a21 w21 h21 => x_loop (fun m a w => ∃ (r : Nat) (cf : List (KA VV)) (tf : Nat), (r ≤ R) ∧ (EnvC r cf ∧ envL r cf = firstE r) ∧ St 65 (fun _ => False) W a w [(0, code.v), (5, .pointer (some ⟨b15, 0, none⟩)), (6, .map (some g17)), (14, .int .i64 ((R : Nat) : Int)), (15, .int .i64 ((r : Nat) : Int))] [.mapA encV (some g17) cf tf, .blk b15 89 [code.v, .map (some g13), (.slice none 0 0)], .big (ahX (some g13) ([]) 0), .at_ code] ∧ m = R - r) ⟨_, 0, [], 0, (by omega), (⟨EnvC.nil, rfl⟩), h21.nf ⟨rfl, rfl, rfl, rfl, rfl, trivial⟩, rfl⟩ ?_; clear h10
 clear h21
 rintro m20 a20 w20 ⟨r, cf, tf, hr, hcf, h20, hm20⟩
 refine gG h20<|sG (oltN _ _ rfl<|.nl)<|gK fun _ k23 => gcd rfl (fun hb24 hp24 => ?_) fun hb24 hp24 => ?_; clear h20
 ·skip
  refine gS<|hK k23<|gK fun _ k25 => gB<|sG (oM 2 rfl<|.nl)<|gL<|gRn (oM 2 rfl<|oV (r_build (cs := [.int .i64 1, .int .i64 0]) rfl rfl (by kernel_rfl)) rfl<|.nl)<|gE (fun _ _ h_ => x_updA (enc := encV) (i := 0) (k := ((r : Nat) : Int)) (v := (⟨1, 0⟩ : VV)) h_ mt_90 rfl rfl rfl rfl rfl rfl rfl) rfl<|nK k25<|gL<|gRn (oadN _ 1 om9 rfl<|oM 1 rfl<|.nl)<|nN<|fun a28 w28 h28 => x_again ⟨_, ?_, (r + 1), (putKv ((r : Nat) : Int) (⟨1, 0⟩ : VV) tf cf), (putT ((r : Nat) : Int) tf cf), ?_, ?_, h28.nf ⟨rfl, rfl, rfl, rfl, rfl, trivial⟩, rfl⟩
  · rw [hm20]; first | omega | (simp only [lens9]; omega)
  · omega
  · exact ⟨hcf.1.grow.1, by rw [hcf.1.grow.2, hcf.2, firstE_succ]⟩
 refine gX<|hK k18<|fun a30 w30 h30 => ?_
 have h29 := h30.nil (α := Int) 3
 clear h30
 obtain rfl : r = R := by omega
 refine gG h29<|sK fun _ k31 => gRn (oM 2 rfl<|.nl)<|gO [2, 3, 0, 1, 4] rfl<|fun a37 w37 h37 => ?_; clear h29
 have hp36 := h37.sh.passL (Lp := [_, _, _, _])
 refine wl_ex (x_call h37 bd_40 rfl rfl rfl rfl rfl (lead_c _ b15 g13 g17 r 0 code ([]) 0 (⟨.slice none 0 0, []⟩ : Ls Int) [] cf tf _ hp36 WfC.nil hcf.1 rfl (Nat.zero_le _))) (wanted_none rfl _) ?_
 rintro a38 w38 ⟨_, ⟨C38, T38, wq38, rfl, hlw38, hla38, hlC38, hs38⟩, hf38⟩
 have hlw := hlw38
 have hla := hla38
 rw [hcf.2, abs_nil, lead_start] at hlw hla
 have h38 : St _ (fun _ => False) W a38 w38 _ [_, _, _, _, _] := ⟨hf38, h37.sh.backI (Lp := [_, _, _, _]) hs38⟩
 clear hf38 hs38
 clear h37
 refine gG h38<|nK k31<|gK fun _ k39 => gB<|fun a41 w41 h41 => x_loop (fun m a w => ∃ (C2 : List (KA MA)) (tC2 : Nat) (wk2 : Ls Int) (wn2 : List Nat), (WkI code.l r (absA r C2) wn2) ∧ (wk2.l = nI wn2) ∧ (WfC r C2) ∧ (wn2.length + muA r (absA r C2) (code.l.length + 1) ≤ 800000) ∧ St 65 (fun _ => False) W a w [(0, code.v), (5, .pointer (some ⟨b15, 0, none⟩))] [.blk b15 89 [code.v, .map (some g13), wk2.v], .big (ahX (some g13) C2 tC2), .own 3 wk2, .mapA encV (some g17) cf tf, .at_ code] ∧ m = wn2.length + muA r (absA r C2) (code.l.length + 1)) ⟨_, C38, T38, wq38, [0], (by rw [hla]; exact WkI.start), (by exact hlw), (by assumption), (by have := mu_big (A := absA r C38) (by rw [hla]; exact low_first.ok) hcl hR; show 1 + _ ≤ _; omega), h41.nf ⟨rfl, rfl, trivial⟩, rfl⟩ ?_; clear h38
 clear h41
 rintro m40 a40 w40 ⟨C2, tC2, wk2, wn2, hW, hwl, hC, hbd, h40, hm40⟩
 have hnl2 : wk2.l.length = wn2.length := by rw [hwl]; exact nI_len
 refine gG h40<|gK fun _ k42 => sK fun _ k43 => gNl (aO 2 rfl) fun hl44 => gRn (oM 1 rfl<|onfl 0 fl_89_2 ti_23 rfl rfl<|oln sl_23 (aO 2 rfl) rfl<|ogtN _ 0 rfl<|.nl)<|nK k43<|?_; clear h40
 refine gcd rfl (fun hb45 hp45 => ?_) fun hb45 hp45 => ?_
 ·skip
  refine gS<|hK k42<|gB<|gK fun _ k46 => rQ (oM 1 rfl<|onfl 0 fl_89_2 ti_23 rfl rfl<|oM 1 rfl<|onfl 0 fl_89_2 ti_23 rfl rfl<|oln sl_23 (aO 2 rfl) rfl<|osbN _ 1 om9 rfl<|oxN sl_23 ti_3 (aO 2 rfl) _ om9 rfl<|olI ti_3 (aO 2 rfl) om9 rfl<|oM 1 rfl<|.nl)<|hK k46<|?_
  obtain ⟨at_, hae⟩ : ∃ a, a = nth wn2 (wn2.length - 1) := ⟨_, rfl⟩
  have hat : nth wk2.l (wk2.l.length - 1) = ((at_ : Nat) : Int) := by rw [hwl, nI_len, nI_nth (by omega), hae]
  have hal : wn2 = wn2.take (wn2.length - 1) ++ [at_] := by rw [hae]; exact last_eq (by omega)
  intro a48 w48 h48
  have h47 := h48.same (d := 42) (v' := .int .i64 ((at_ : Nat) : Int)) rfl (by rw [hat])
  clear h48
  have h49 := h47.same (d := 8) (v' := .int .i64 ((at_ : Nat) : Int)) rfl (by rw [hat])
  clear h47
  refine gG h49<|gK fun _ k50 => rT 14 [] (oM 2 rfl<|onfl 0 fl_89_2 ti_23 rfl rfl<|oM 1 rfl<|onfl 0 fl_89_2 ti_23 rfl rfl<|oln sl_23 (aO 2 rfl) rfl<|osbN _ 1 om9 rfl<|oV (r_slH0 (s := wk2) (j := wk2.l.length - 1) sl_23 ti_3 rfl rfl rfl (fun w h => (h.own 2 rfl)) (show wk2.l.length - 1 ≤ wk2.l.length from om9)) rfl<|onf fl_89_2 rfl<|.nl)<|gE (fun _ _ h_ => x_stb (i := 0) (vs := [(vtake wk2.v (wk2.l.length - 1))]) (cs' := [code.v, .map (some g13), (vtake wk2.v (wk2.l.length - 1))]) h_ ti_23 rfl rfl rfl rfl rfl (cells_oneL ((take_at (h_.sh.own 2 rfl) (show wk2.l.length - 1 ≤ wk2.l.length from om9))).one) rfl (allOne_cons ((take_at (h_.sh.own 2 rfl) (show wk2.l.length - 1 ≤ wk2.l.length from om9))).one allOne_nil) (Nat.le_of_ble_eq_true rfl) rfl) rfl<|nK k50<|gF [0, 5, 8] rfl<|fun a53 w53 h53 => ?_; clear h49
  have h52 := h53.trunc 2 rfl (wk2.l.length - 1) (show wk2.l.length - 1 ≤ wk2.l.length from by omega) (show 0 < wk2.l.length from by omega)
  clear h53
  have hwl9 : (wk2.l.take (wk2.l.length - 1)) = nI (wn2.take (wn2.length - 1)) := by rw [hwl, nI_take, nI_len]
  refine gG h52<|sK fun _ k54 => gNl (aA 4 rfl) fun hl55 => gRn (oM 2 rfl<|oln sl_45 (aA 4 rfl) rfl<|oltN _ _ rfl<|.nl)<|nK k54<|?_; clear h52
  refine gcd rfl (fun hb56 hp56 => ?_) fun hb56 hp56 => ?_
  ·skip
   refine gL<|gRn (oM 2 rfl<|.nl)<|gO [0, 1, 2, 4, 3] rfl<|gM 4 rfl (fun _ _ h_ => xCl h_ bd_41 rfl (order_c _ b15 g13 r at_ code C2 tC2 (⟨(vtake wk2.v (wk2.l.length - 1)), (wk2.l.take (wk2.l.length - 1))⟩ : Ls Int) (wn2.take (wn2.length - 1)) _ (pKl 4 h_ rfl) hC (by rw [← hal]; exact hW) (by omega) hov hj hwl9 (by rw [List.length_take]; omega) (by omega))) rfl<|?_
   rintro _ _ w59 ⟨C59, T59, wq59, wn59, rfl, hlw59, hlC59, hlW59, hlm59, hs59⟩
   refine gBk hs59 rfl<|fun a59 h59 => ?_; clear hs59
   refine gG h59<|nN<|fun a60 w60 h60 => ?_; clear h59
   change ∃ _m, _m < _ ∧ _
   have htk9 : (wn2.take (wn2.length - 1)).length = wn2.length - 1 := by rw [List.length_take]; omega
   refine ⟨_, ?_, C59, T59, wq59, wn59, ?_, ?_, ?_, ?_, h60.nrm ⟨rfl, rfl, trivial⟩ [0, 1, 2, 4, 3] rfl, rfl⟩
   · rw [hm40]; first | omega | (rw [List.length_take]; omega)
   · first | assumption | exact WkI.popEnd (t := at_) (by rw [← hal]; exact hW) (by omega)
   · first | assumption | exact hwl9
   · assumption
   · first | omega | (rw [List.length_take]; omega)
  refine gS<|fun a61 w61 h61 => ?_
  change ∃ _m, _m < _ ∧ _
  have htk9 : (wn2.take (wn2.length - 1)).length = wn2.length - 1 := by rw [List.length_take]; omega
  refine ⟨_, ?_, C2, tC2, (⟨(vtake wk2.v (wk2.l.length - 1)), (wk2.l.take (wk2.l.length - 1))⟩ : Ls Int), (wn2.take (wn2.length - 1)), ?_, ?_, ?_, ?_, h61.nf ⟨rfl, rfl, trivial⟩, rfl⟩
  · rw [hm40]; first | omega | (rw [List.length_take]; omega)
  · first | assumption | exact WkI.popEnd (t := at_) (by rw [← hal]; exact hW) (by omega)
  · first | assumption | exact hwl9
  · assumption
  · first | omega | (rw [List.length_take]; omega)
 refine gX<|hK k39<|sG (oM 2 rfl<|.nl)<|gR<|fun a63 w63 h63 => x_ret1 (fn := Try.f20) (t := 4) rfl h63 rfl ?_
 have hn9 : wn2 = [] := List.eq_nil_of_length_eq_zero (by omega)
 rw [hn9] at hW
 exact ⟨_, _, C2, tC2, wk2, rfl, hW.least, hC, (h63.sh.sel [0, 1, 2] rfl)⟩

end Go.Proofs.Ytmgikmjmdppfmaa
