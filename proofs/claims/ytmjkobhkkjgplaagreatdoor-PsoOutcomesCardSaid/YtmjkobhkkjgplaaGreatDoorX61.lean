/- The memory in which nothing waits: made, its methods. -/
import Derived.Test.YtmjkobhkkjgplaaGreatDoorS26
import Derived.Test.YtmjkobhkkjgplaaGreatDoorS27
import Derived.Test.YtmjkobhkkjgplaaGreatDoorX3
import Derived.Test.YtmjkobhkkjgplaaGreatDoorS10
namespace Go.Proofs.YtmjkobhkkjgplaaGreatDoor
open Go.RowKit
set_option linter.unusedSimpArgs false
set_option linter.unusedVariables false
set_option maxRecDepth 100000
set_option maxHeartbeats 4000000
theorem rep_of {c:Nat} {e:Int} {l:List Int} (h1:l.length=c) (h2:∀i,i<c→nth l i=e):l=List.replicate c e:=by
 refine ext_nth _ _ (by simpa using h1) fun i hi=> ?_
 rw [h2 i (by omega),nth_replicate _ _ _ (by omega)]
theorem nth_copy (l m:List Int) (n k i:Nat) (h1:n+k≤l.length) (h2:k≤m.length):nth (l.take n++m.take k++l.drop (n+k)) i=if i<n then nth l i else if i<n+k then nth m (i-n) else nth l i:=by
 have e1:(l.take n).length=n:=by rw [List.length_take];omega
 have e2:(m.take k).length=k:=by rw [List.length_take];omega
 have e3:(l.take n++m.take k).length=n+k:=by rw [List.length_append,e1,e2]
 rw [nth_append,e3]
 by_cases h:i<n+k
 ·rw [if_pos h,nth_append,e1]
  by_cases h3:i<n
  ·rw [if_pos h3,if_pos h3,nth_take0 h3]
  ·rw [if_neg h3,if_neg h3,if_pos h,nth_take0 (by omega)]
 ·rw [if_neg h,if_neg (by omega),if_neg h,nth_drop0,show n+k+(i-(n+k))=i by omega]
theorem mul64_c (x y:Nat) (W:World) (hx:x≤100000) (hy:y≤100000) (hxy:x*y≤100000):
    Rets Tryz.prog 165 [.int .u64 ((x:Nat):Int), .int .u64 ((y:Nat):Int)] W (fun v w' =>v= .tuple #[.int .u64 ((0:Nat):Int), .int .u64 ((x*y:Nat):Int)]∧Sh0 W w' []):=by
 refine gen Tryz.func165 Tryz.ntmps165 (Sh0.start _:Sh (fun _=>False) W W []) rfl fun a10 h10=>gG h10<|sG (oM 2 rfl<|.nl)<|sG (oM 1 rfl<|oV (r_andS (p:=x) rfl rfl rfl (show x<4294967296 from om9)) rfl<|oM 1 rfl<|.nl)<|sG (oM 1 rfl<|oV (r_shrS (p:=x) rfl rfl rfl (show x<4294967296 from om9)) rfl<|oM 1 rfl<|.nl)<|sG (oM 1 rfl<|oV (r_andS (p:=y) rfl rfl rfl (show y<4294967296 from om9)) rfl<|oM 1 rfl<|.nl)<|sG (oM 1 rfl<|oV (r_shrS (p:=y) rfl rfl rfl (show y<4294967296 from om9)) rfl<|oM 1 rfl<|.nl)<|sG (oM 2 rfl<|oV (r_mulS (p:=x) (q:=y) (r:=x*y) rfl rfl rfl rfl (show x*y<18446744073709551616 from om9)) rfl<|oM 1 rfl<|.nl)<|sG (oM 2 rfl<|oV (r_mulS (p:=0) (q:=y) (r:=0) rfl rfl rfl (by simp) (show 0<18446744073709551616 from om9)) rfl<|oM 1 rfl<|oV (r_shrS (p:=x*y) rfl rfl rfl (show x*y<4294967296 from om9)) rfl<|oV (r_addS (p:=0) (q:=0) (r:=0) rfl rfl rfl (by simp) (show 0<18446744073709551616 from om9)) rfl<|oM 1 rfl<|.nl)<|sG (oM 1 rfl<|oV (r_andS (p:=0) rfl rfl rfl (show 0<4294967296 from om9)) rfl<|oM 1 rfl<|.nl)<|gF [0,1,6,7,9,11,12] rfl<|sG (oM 1 rfl<|oV (r_shrS (p:=0) rfl rfl rfl (show 0<4294967296 from om9)) rfl<|oM 1 rfl<|.nl)<|sG (oM 3 rfl<|oV (r_mulS (p:=x) (q:=0) (r:=0) rfl rfl rfl (by simp) (show 0<18446744073709551616 from om9)) rfl<|oV (r_addS (p:=0) (q:=0) (r:=0) rfl rfl rfl (by simp) (show 0<18446744073709551616 from om9)) rfl<|oM 1 rfl<|.nl)<|sG (oM 2 rfl<|oV (r_mulS (p:=0) (q:=0) (r:=0) rfl rfl rfl (by simp) (show 0<18446744073709551616 from om9)) rfl<|oM 1 rfl<|oV (r_addS (p:=0) (q:=0) (r:=0) rfl rfl rfl (by simp) (show 0<18446744073709551616 from om9)) rfl<|oM 1 rfl<|oV (r_shrS (p:=0) rfl rfl rfl (show 0<4294967296 from om9)) rfl<|oV (r_addS (p:=0) (q:=0) (r:=0) rfl rfl rfl (by simp) (show 0<18446744073709551616 from om9)) rfl<|oM 1 rfl<|.nl)<|sG (oM 2 rfl<|oV (r_mulS (p:=x) (q:=y) (r:=x*y) rfl rfl rfl rfl (show x*y<18446744073709551616 from om9)) rfl<|oM 1 rfl<|.nl)<|gF [4,5] rfl<|gR<|fun a23 w23 h23=> ?_;clear h10
 try simp only [Exit.then,Exit.inBlock]
 refine x_ret2 (fn:=Tryz.f165) (t:=4) (u:=5) rfl h23 rfl rfl ?_
 exact ⟨rfl,(h23.sh.sel [] rfl)⟩
theorem mul_c (x y:Nat) (W:World) (hx:x≤100000) (hy:y≤100000) (hxy:x*y≤100000):
    Rets Tryz.prog 147 [.int .u64 ((x:Nat):Int), .int .u64 ((y:Nat):Int)] W (fun v w' =>v= .tuple #[.int .u64 ((0:Nat):Int), .int .u64 ((x*y:Nat):Int)]∧Sh0 W w' []):=by
 refine gen Tryz.func147 Tryz.ntmps147 (Sh0.start _:Sh (fun _=>False) W W []) rfl fun a10 h10=>gG h10<|sG (oM 2 rfl<|.nl)<|gK fun _ k12=>gcF rfl rfl<|gS<|hK k12<|sK fun _ k13=>gRn (oM 2 rfl<|.nl)<|gP (fun _ _ h_=>xCl h_ bd_165 rfl (mul64_c x y _ (by omega) (by omega) (by omega))) rfl<|gRn (oM 1 rfl<|oxt rfl<|oxt rfl<|oM 2 rfl<|.nl)<|nK k13<|sG (oM 4 rfl<|.nl)<|gR<|fun a16 w16 h16=> ?_;clear h10
 try simp only [Exit.then,Exit.inBlock]
 refine x_ret2 (fn:=Tryz.f147) (t:=4) (u:=5) rfl h16 rfl rfl ?_
 exact ⟨rfl,(h16.sh.sel [] rfl)⟩
theorem repeat_c (x:Ls Int) (c:Nat) (W:World) (hx:x.At W) (hx1:x.l.length=1) (hc:c≤1000):
    Rets Tryz.prog 124 [x.v, .int .i64 ((c:Nat):Int)] W (fun v w' =>∃s:Ls Int,v=s.v∧Sh0 W w' [.own 3 (⟨s.v,List.replicate c (nth x.l 0)⟩:Ls Int)]):=by
 have hxc:x.l.length*c=c:=by rw [hx1,Nat.one_mul]
 refine gen Tryz.func124 Tryz.ntmps124 (Sh0.ext1 hx:Sh (fun _=>False) W W [.at_ x]) rfl fun a10 h10=>gG h10<|sG (oM 1 rfl<|.nl)<|gK fun _ k12=>sG (oM 1 rfl<|oltN _ 0 rfl<|.nl)<|?_;clear h10
 refine gcd rfl (fun hb14 hp14=> ?_) fun hb14 hp14=> ?_
 ·skip
  exfalso
  omega
 refine gS<|hK k12<|sK fun _ k15=>gNl (aA 0 rfl) fun hl16=>gRn (oM 1 rfl<|oln sl_23 (aA 0 rfl) rfl<|oV (r_cvUN Tryz.underlying3 Tryz.underlying143 rfl rfl (show x.l.length<18446744073709551616 from om9)) rfl<|oM 1 rfl<|oV (r_cvUN Tryz.underlying3 Tryz.underlying143 rfl rfl (show c<18446744073709551616 from om9)) rfl<|.nl)<|gP (fun _ _ h_=>xCl h_ bd_147 rfl (mul_c x.l.length c _ (by omega) (by omega) (by rw [hxc];omega))) rfl<|gRn (oM 1 rfl<|oxt rfl<|oxt rfl<|oM 2 rfl<|.nl)<|nK k15<|fun a19 w19 h19=> ?_
 have h18:=h19.same (d:=6) (v' := .int .u64 ((c:Nat):Int)) rfl (by rw [hx1,Nat.one_mul];rfl)
 clear h19
 refine gG h18<|gK fun _ k20=>sG (oM 1 rfl<|ogtN 0 0 rfl<|oM 1 rfl<|oG (by decide) (r_move rfl rfl) rfl<|oG (by decide) (r_gtrN (p:=c) (q:=9223372036854775807) rfl rfl rfl) rfl<|opF (by decide) rfl<|.nl)<|?_;clear h18
 refine gcd rfl (fun hb22 hp22=> ?_) fun hb22 hp22=> ?_
 ·skip
  exfalso
  omega
 refine gS<|hK k20<|sK fun _ k23=>gRn (oM 1 rfl<|oV (r_cvI Tryz.underlying143 Tryz.underlying3 rfl rfl (show c<9223372036854775808 from om9)) rfl<|.nl)<|gE1 (fun _ _ h_=>x_make (n:=c) (0:Int) h_ sl_23 ti_3 rfl rfl rfl rfl rfl (show 8*c≤140737488355328∧c≤140737488355328 from om9) (fun w=>Flat.inner _ _) (fun b=>Flat.on _ _) rfl rfl) rfl fun v24=>gRn (oM 1 rfl<|.nl)<|nK k23<|gF [0,7] rfl<|sK fun _ k25=>gRn (oM 2 rfl<|.nl)<|gE (fun _ _ h_=>x_copy (r:=0) (n:=0) (k:=min x.l.length ((List.replicate c 0).length-0)) (s:=(⟨v24,List.replicate c 0⟩:Ls Int)) (m:=(⟨x.v,x.l⟩:Ls Int)) h_ sl_23 ti_3 rfl rfl (.inl ⟨rfl,rfl⟩) rfl rfl (h_.sh.at 1 rfl) (show 0≤(List.replicate c 0).length from om9) rfl rfl rfl) rfl<|gRn (oM 1 rfl<|.nl)<|nK k25<|gK fun _ k27=>gB<|?_
 have hk0:min x.l.length ((List.replicate c (0:Int)).length-0)=if c=0 then 0 else 1:=by rw [hx1,List.length_replicate];split<;>omega
 intro a29 w29 h29
 refine x_loop (fun m a w=>∃(n:Nat) (ro:List Int),(n≤c)∧(ro.length=c)∧(c=0∨1≤n)∧(∀i,i<n→nth ro i=nth x.l 0)∧St 48 (fun _=>False) W a w [(7,v24),(8, .int .i64 ((n:Nat):Int))] [.own 3 (⟨v24,ro⟩:Ls Int), .at_ x]∧m=c-n) ⟨_,min x.l.length ((List.replicate c 0).length-0),(List.replicate c 0).take 0++x.l.take (min x.l.length ((List.replicate c 0).length-0))++(List.replicate c 0).drop (0+min x.l.length ((List.replicate c 0).length-0)),(by rw [hk0];split<;>omega),(by simp only [List.length_append,List.length_take,List.length_drop,List.length_replicate];omega),(by rw [hk0];split<;>omega),(fun i hi=>by rw [hk0] at hi⊢;rw [nth_copy _ _ _ _ _ (by rw [List.length_replicate];split<;>omega) (by rw [hx1];split<;>omega),if_neg (by omega),if_pos (by omega),show i-0=0 by split at hi<;>omega]),h29.nf ⟨rfl,rfl,trivial⟩,rfl⟩ ?_
 clear h29
 rintro m28 a28 w28 ⟨n,ro,hn,hro,hn1,hall,h28,hm28⟩
 refine gG h28<|gK fun _ k30=>sK fun _ k31=>gNl (aO 0 rfl) fun (hl32:ro.length≤140737488355328)=>gRn (oM 2 rfl<|oln (n:=ro.length) sl_23 (aO 0 rfl) rfl<|oltN _ _ rfl<|.nl)<|nK k31<|?_;clear h28
 refine gcd rfl (fun hb33 hp33=> ?_) fun hb33 hp33=> ?_
 ·skip
  refine gS<|hK k30<|gB<|rT 7 [0] (by kernel_rfl) (by kernel_rfl) (oM 3 rfl<|oV (r_slL (s:=(⟨v24,ro⟩:Ls Int)) (k:=n) sl_23 ti_3 rfl rfl rfl (fun w h=>(h.own 0 rfl)) (show n≤ro.length from om9)) rfl<|oM 2 rfl<|oV (r_slH (s:=(⟨v24,ro⟩:Ls Int)) (j:=n) sl_23 ti_3 rfl rfl rfl (fun w h=>(h.own 0 rfl)) (show n≤ro.length from om9) (show 0<ro.length from om9)) rfl<|.nl)<|gE (fun _ _ h_=>x_copy (r:=0) (n:=n) (k:=min (ro.take n).length (ro.length-n)) (s:=(⟨v24,ro⟩:Ls Int)) (m:=(⟨(vtake v24 n),(ro.take n)⟩:Ls Int)) h_ sl_23 ti_3 rfl rfl (.inr rfl) rfl rfl (take_at (h_.sh.own 0 rfl) (show n≤ro.length from om9)) (show n≤ro.length from om9) rfl rfl rfl) rfl<|gRn (oadN _ _ (show n+(min (ro.take n).length (ro.length-n))<9223372036854775808 from om9) rfl<|oM 1 rfl<|.nl)<|nN<|fun a35 w35 h35=> ?_
  change∃_m,_m<_∧_
  refine ⟨_, ?_,n+(min (ro.take n).length (ro.length-n)),ro.take n++(ro.take n).take (min (ro.take n).length (ro.length-n))++ro.drop (n+min (ro.take n).length (ro.length-n)), ?_, ?_, ?_, ?_,h35.nf ⟨rfl,rfl,trivial⟩,rfl⟩
  · rw [hm28];rw [List.length_take,hro];omega
  · rw [List.length_take,hro] at*;omega
  · simp only [List.length_append,List.length_take,List.length_drop,hro];omega
  · omega
  · intro i hi;rw [List.length_take,hro] at hi⊢;rw [nth_copy _ _ _ _ _ (by rw [hro];omega) (by rw [List.length_take,hro];omega)];split;(exact hall i (by assumption));(try rw [if_pos (by omega)]);rw [nth_take0 (by omega)];exact hall _ (by omega)
 refine gX<|hK k27<|sG (oM 2 rfl<|.nl)<|gR<|fun a37 w37 h37=> ?_
 try simp only [Exit.then,Exit.inBlock]
 refine x_ret1 (fn:=Tryz.f124) (t:=4) rfl h37 rfl ?_
 have he9:ro=List.replicate c (nth x.l 0):=rep_of hro (fun i hi=>hall i (by omega))
 rw [he9] at h37
 exact ⟨⟨v24, []⟩,rfl,(h37.sh.sel [0] rfl)⟩
theorem pnew_c (words:Ls Int) (Lk:Nat) (cv:Value) (nregs:Int) (W:World) (hwords:words.At W) (hwn:words.l.length≤64) (hlk:Lk≤4):
    Rets Tryz.prog 81 [.agg #[cv,words.v, .int .i64 ((Lk:Nat):Int), .int .i64 nregs]] W (fun v w' =>∃(g:Nat) (words' owner' :Ls Int),v= .pointer (some ⟨g,0,none⟩)∧words'.l=words.l∧owner'.l=List.replicate Lk (-1)∧Sh0 W w' [.blk g 182 [words'.v,owner'.v], .own 3 words', .own 3 owner']):=by
 refine gen Tryz.func81 Tryz.ntmps81 (Sh0.ext1 hwords:Sh (fun _=>False) W W [.at_ words]) rfl fun a10 h10=>gG h10<|sK fun _ k11=>gbx rfl rfl fun b12=>gRn (oM 1 rfl<|.nl)<|nK k11<|gK fun _ k13=>gF [0,1] rfl<|fun a14 w14 h14=>x_any ((fun Φ Ψ S a w=>(S 2=false∧S 3=false∧S 6=false∧S 8=false∧FrI 12 S Φ Ψ a∧Sh (fun _=>False) W w [.blk b12 25 [cv,words.v, .int .i64 ((Lk:Nat):Int), .int .i64 nregs], .at_ words])∨(S 2=true∧S 3=false∧S 6=false∧S 8=false∧∃(s7002:Ls Int),FrI 12 S Φ (Ψ++ [(2,5,s7002.v)]) a∧Sh (fun _=>False) W w [.own 3 (⟨s7002.v,words.l⟩:Ls Int), .blk b12 25 [cv,words.v, .int .i64 ((Lk:Nat):Int), .int .i64 nregs], .at_ words])∨(S 2=false∧S 3=true∧S 6=false∧S 8=false∧∃(v7003:Value),FrI 12 S Φ (Ψ++ [(3,6,v7003)]) a∧Sh (fun _=>False) W w [.own 3 (⟨v7003, [(-1)]⟩:Ls Int), .blk b12 25 [cv,words.v, .int .i64 ((Lk:Nat):Int), .int .i64 nregs], .at_ words])∨(S 2=true∧S 3=true∧S 6=false∧S 8=false∧∃(s7002:Ls Int) (v7003:Value),FrI 12 S Φ (Ψ++ [(2,5,s7002.v),(3,6,v7003)]) a∧Sh (fun _=>False) W w [.own 3 (⟨v7003, [(-1)]⟩:Ls Int), .own 3 (⟨s7002.v,words.l⟩:Ls Int), .blk b12 25 [cv,words.v, .int .i64 ((Lk:Nat):Int), .int .i64 nregs], .at_ words])∨(S 2=true∧S 3=true∧S 6=true∧S 8=false∧∃(s7002:Ls Int) (v7003:Value) (s7006:Ls Int),FrI 12 S Φ (Ψ++ [(2,5,s7002.v),(3,6,v7003),(6,9,s7006.v),(7,10, .agg #[s7002.v,s7006.v])]) a∧Sh (fun _=>False) W w [.own 3 (⟨s7006.v,List.replicate Lk (nth ([(-1)]) 0)⟩:Ls Int), .own 3 (⟨v7003, [(-1)]⟩:Ls Int), .own 3 (⟨s7002.v,words.l⟩:Ls Int), .blk b12 25 [cv,words.v, .int .i64 ((Lk:Nat):Int), .int .i64 nregs], .at_ words])∨(S 2=true∧S 3=true∧S 6=true∧S 8=true∧∃(s7002:Ls Int) (v7003:Value) (s7006:Ls Int) (b7008:Nat),FrI 12 S Φ (Ψ++ [(2,5,s7002.v),(3,6,v7003),(6,9,s7006.v),(7,10, .agg #[s7002.v,s7006.v]),(8,11, .pointer (some ⟨b7008,0,none⟩)),(9,2, .pointer (some ⟨b7008,0,none⟩))]) a∧Sh (fun _=>False) W w [.blk b7008 182 [s7002.v,s7006.v], .own 3 (⟨s7006.v,List.replicate Lk (nth ([(-1)]) 0)⟩:Ls Int), .own 3 (⟨v7003, [(-1)]⟩:Ls Int), .own 3 (⟨s7002.v,words.l⟩:Ls Int), .blk b12 25 [cv,words.v, .int .i64 ((Lk:Nat):Int), .int .i64 nregs], .at_ words])) [(0, .agg #[cv,words.v, .int .i64 ((Lk:Nat):Int), .int .i64 nregs]),(1, .pointer (some ⟨b12,0,none⟩))] [(0,3, .pointer (some ⟨b12,1,none⟩)),(1,4,words.v),(4,7, .pointer (some ⟨b12,2,none⟩)),(5,8, .int .i64 ((Lk:Nat):Int))]) (by kernel_rfl) (by kernel_rfl) (Or.inl (⟨rfl,rfl,rfl,rfl,FrI.start h14.fr,h14.sh.drew⟩)) ?_ ?_;clear h10
 ·intro S i o ho hSi hcl hdep a w hI
  clear h14
  rcases i with _|_|_|_|_|_|_|_|_|_|i
  ·obtain rfl:_=o:=Option.some.inj ho
   rcases hI with ⟨ν2,ν3,ν6,ν8,φ,ς⟩|⟨ν2,_⟩|⟨ν2,ν3,ν6,ν8,v7003,φ,ς⟩|⟨ν2,_⟩|⟨ν2,_⟩|⟨ν2,_⟩
   ·exact sq φ φ.fr0 ς (r_fieldB (r:=1) fl_25_1 rfl rfl rfl) 0 rfl rfl rfl rfl rfl rfl fun a hg=>Or.inl (⟨un rfl ν2,un rfl ν3,un rfl ν6,un rfl ν8,hg,ς⟩)
   ·exact no_way (cA hcl 2 0 rfl ν2) hSi
   ·exact sq φ φ.fr0 ς (r_fieldB (r:=1) fl_25_1 rfl rfl rfl) 0 rfl rfl rfl rfl rfl rfl fun a hg=>Or.inr (Or.inr (Or.inl (⟨un rfl ν2,un rfl ν3,un rfl ν6,un rfl ν8,v7003,hg,ς⟩)))
   ·exact no_way (cA hcl 2 0 rfl ν2) hSi
   ·exact no_way (cA hcl 2 0 rfl ν2) hSi
   ·exact no_way (cA hcl 2 0 rfl ν2) hSi
  ·obtain rfl:_=o:=Option.some.inj ho
   have hd0:S 0=true:=depAt hdep 0 rfl rfl
   rcases hI with ⟨ν2,ν3,ν6,ν8,φ,ς⟩|⟨ν2,_⟩|⟨ν2,ν3,ν6,ν8,v7003,φ,ς⟩|⟨ν2,_⟩|⟨ν2,_⟩|⟨ν2,_⟩
   ·exact sq φ (Fr.cons φ.fr0 (φ.at_ 0 0 3 _ rfl hd0)) ς (r_ldb (i:=0) ti_23 rfl rfl rfl rfl) 1 rfl rfl rfl rfl rfl rfl fun a hg=>Or.inl (⟨un rfl ν2,un rfl ν3,un rfl ν6,un rfl ν8,hg,ς⟩)
   ·exact no_way (cA hcl 2 1 rfl ν2) hSi
   ·exact sq φ (Fr.cons φ.fr0 (φ.at_ 0 0 3 _ rfl hd0)) ς (r_ldb (i:=1) ti_23 rfl rfl rfl rfl) 1 rfl rfl rfl rfl rfl rfl fun a hg=>Or.inr (Or.inr (Or.inl (⟨un rfl ν2,un rfl ν3,un rfl ν6,un rfl ν8,v7003,hg,ς⟩)))
   ·exact no_way (cA hcl 2 1 rfl ν2) hSi
   ·exact no_way (cA hcl 2 1 rfl ν2) hSi
   ·exact no_way (cA hcl 2 1 rfl ν2) hSi
  ·obtain rfl:_=o:=Option.some.inj ho
   have hd1:S 1=true:=depAt hdep 0 rfl rfl
   rcases hI with ⟨ν2,ν3,ν6,ν8,φ,ς⟩|⟨ν2,_⟩|⟨ν2,ν3,ν6,ν8,v7003,φ,ς⟩|⟨ν2,_⟩|⟨ν2,_⟩|⟨ν2,_⟩
   ·have hs:=St.mk (Fr.cons φ.fr0 (φ.at_ 1 1 4 _ rfl hd1)) ς
    refine step_ex (x_call hs bd_44 rfl rfl rfl rfl rfl (cloneI_c words _ (hs.sh.at 1 rfl) (by first|omega|(simp only [lens9];omega)))) (wanted_none rfl _) ?_
    rintro a24 w24 ⟨_,⟨s24,rfl,hs24⟩,hf24⟩ ⟨v0,ht24⟩
    have h24:St _ (fun _=>False) W a24 w24 _ _:=⟨hf24,hs.sh.callI hs24⟩
    clear hf24 hs24
    exact Or.inr (Or.inl (⟨upd_self _ _,un rfl ν3,un rfl ν6,un rfl ν8,s24,φ.stepW hcl hSi [0,1,2,3] (by kernel_rfl) (by kernel_rfl) ht24 h24.fr.defers (h24.fr.at_ 5 _ rfl) 4 rfl rfl rfl rfl,(h24.sh.sel [0,1,2] rfl)⟩))
   ·exact no_way ν2 hSi
   ·have hs:=St.mk (Fr.cons φ.fr0 (φ.at_ 1 1 4 _ rfl hd1)) ς
    refine step_ex (x_call hs bd_44 rfl rfl rfl rfl rfl (cloneI_c words _ (hs.sh.at 2 rfl) (by first|omega|(simp only [lens9];omega)))) (wanted_none rfl _) ?_
    rintro a25 w25 ⟨_,⟨s25,rfl,hs25⟩,hf25⟩ ⟨v0,ht25⟩
    have h25:St _ (fun _=>False) W a25 w25 _ _:=⟨hf25,hs.sh.callI hs25⟩
    clear hf25 hs25
    exact Or.inr (Or.inr (Or.inr (Or.inl (⟨upd_self _ _,un rfl ν3,un rfl ν6,un rfl ν8,s25,v7003,φ.stepW hcl hSi [0,1,2,3,5] (by kernel_rfl) (by kernel_rfl) ht25 h25.fr.defers (h25.fr.at_ 5 _ rfl) 4 rfl rfl rfl rfl,(h25.sh.sel [1,0,2,3] rfl)⟩))))
   ·exact no_way ν2 hSi
   ·exact no_way ν2 hSi
   ·exact no_way ν2 hSi
  ·obtain rfl:_=o:=Option.some.inj ho
   rcases hI with ⟨ν2,ν3,ν6,ν8,φ,ς⟩|⟨ν2,ν3,ν6,ν8,s7002,φ,ς⟩|⟨_,ν3,_⟩|⟨_,ν3,_⟩|⟨_,ν3,_⟩|⟨_,ν3,_⟩
   ·have hs:=St.mk φ.fr0 ς
    refine step_ex (x_lit (n:=1) (cs:= [.int .i64 (-1)]) ([(-1)]:List Int) hs sl_23 ti_3 rfl rfl rfl (by decide) rfl (by kernel_rfl) rfl (fun q hq w h=>Flat.inner _ _) (fun q hq b hb=>(Flat.on _ _ hb).elim) rfl rfl) (wanted_none rfl _) ?_
    rintro a26 w26 ⟨v26,h26⟩ ⟨v0,ht26⟩
    exact Or.inr (Or.inr (Or.inl (⟨un rfl ν2,upd_self _ _,un rfl ν6,un rfl ν8,v26,φ.stepW hcl hSi [0,1,2,3] (by kernel_rfl) (by kernel_rfl) ht26 h26.fr.defers (h26.fr.at_ 6 _ rfl) 4 rfl rfl rfl rfl,(h26.sh.sel [0,1,2] rfl)⟩)))
   ·have hs:=St.mk φ.fr0 ς
    refine step_ex (x_lit (n:=1) (cs:= [.int .i64 (-1)]) ([(-1)]:List Int) hs sl_23 ti_3 rfl rfl rfl (by decide) rfl (by kernel_rfl) rfl (fun q hq w h=>Flat.inner _ _) (fun q hq b hb=>(Flat.on _ _ hb).elim) rfl rfl) (wanted_none rfl _) ?_
    rintro a27 w27 ⟨v27,h27⟩ ⟨v0,ht27⟩
    exact Or.inr (Or.inr (Or.inr (Or.inl (⟨un rfl ν2,upd_self _ _,un rfl ν6,un rfl ν8,s7002,v27,φ.stepW hcl hSi [0,1,2,3,4] (by kernel_rfl) (by kernel_rfl) ht27 h27.fr.defers (h27.fr.at_ 6 _ rfl) 5 rfl rfl rfl rfl,(h27.sh.sel [0,1,2,3] rfl)⟩))))
   ·exact no_way ν3 hSi
   ·exact no_way ν3 hSi
   ·exact no_way ν3 hSi
   ·exact no_way ν3 hSi
  ·obtain rfl:_=o:=Option.some.inj ho
   rcases hI with ⟨ν2,ν3,ν6,ν8,φ,ς⟩|⟨ν2,ν3,ν6,ν8,s7002,φ,ς⟩|⟨ν2,ν3,ν6,ν8,v7003,φ,ς⟩|⟨ν2,ν3,ν6,ν8,s7002,v7003,φ,ς⟩|⟨_,_,ν6,_⟩|⟨_,_,ν6,_⟩
   ·exact sq φ φ.fr0 ς (r_fieldB (r:=2) fl_25_2 rfl rfl rfl) 2 rfl rfl rfl rfl rfl rfl fun a hg=>Or.inl (⟨un rfl ν2,un rfl ν3,un rfl ν6,un rfl ν8,hg,ς⟩)
   ·exact sq φ φ.fr0 ς (r_fieldB (r:=2) fl_25_2 rfl rfl rfl) 2 rfl rfl rfl rfl rfl rfl fun a hg=>Or.inr (Or.inl (⟨un rfl ν2,un rfl ν3,un rfl ν6,un rfl ν8,s7002,hg,ς⟩))
   ·exact sq φ φ.fr0 ς (r_fieldB (r:=2) fl_25_2 rfl rfl rfl) 2 rfl rfl rfl rfl rfl rfl fun a hg=>Or.inr (Or.inr (Or.inl (⟨un rfl ν2,un rfl ν3,un rfl ν6,un rfl ν8,v7003,hg,ς⟩)))
   ·exact sq φ φ.fr0 ς (r_fieldB (r:=2) fl_25_2 rfl rfl rfl) 2 rfl rfl rfl rfl rfl rfl fun a hg=>Or.inr (Or.inr (Or.inr (Or.inl (⟨un rfl ν2,un rfl ν3,un rfl ν6,un rfl ν8,s7002,v7003,hg,ς⟩))))
   ·exact no_way (cA hcl 6 4 rfl ν6) hSi
   ·exact no_way (cA hcl 6 4 rfl ν6) hSi
  ·obtain rfl:_=o:=Option.some.inj ho
   have hd4:S 4=true:=depAt hdep 0 rfl rfl
   rcases hI with ⟨ν2,ν3,ν6,ν8,φ,ς⟩|⟨ν2,ν3,ν6,ν8,s7002,φ,ς⟩|⟨ν2,ν3,ν6,ν8,v7003,φ,ς⟩|⟨ν2,ν3,ν6,ν8,s7002,v7003,φ,ς⟩|⟨_,_,ν6,_⟩|⟨_,_,ν6,_⟩
   ·exact sq φ (Fr.cons φ.fr0 (φ.at_ 2 4 7 _ rfl hd4)) ς (r_ldb (i:=0) ti_3 rfl rfl rfl rfl) 3 rfl rfl rfl rfl rfl rfl fun a hg=>Or.inl (⟨un rfl ν2,un rfl ν3,un rfl ν6,un rfl ν8,hg,ς⟩)
   ·exact sq φ (Fr.cons φ.fr0 (φ.at_ 2 4 7 _ rfl hd4)) ς (r_ldb (i:=1) ti_3 rfl rfl rfl rfl) 3 rfl rfl rfl rfl rfl rfl fun a hg=>Or.inr (Or.inl (⟨un rfl ν2,un rfl ν3,un rfl ν6,un rfl ν8,s7002,hg,ς⟩))
   ·exact sq φ (Fr.cons φ.fr0 (φ.at_ 2 4 7 _ rfl hd4)) ς (r_ldb (i:=1) ti_3 rfl rfl rfl rfl) 3 rfl rfl rfl rfl rfl rfl fun a hg=>Or.inr (Or.inr (Or.inl (⟨un rfl ν2,un rfl ν3,un rfl ν6,un rfl ν8,v7003,hg,ς⟩)))
   ·exact sq φ (Fr.cons φ.fr0 (φ.at_ 2 4 7 _ rfl hd4)) ς (r_ldb (i:=2) ti_3 rfl rfl rfl rfl) 3 rfl rfl rfl rfl rfl rfl fun a hg=>Or.inr (Or.inr (Or.inr (Or.inl (⟨un rfl ν2,un rfl ν3,un rfl ν6,un rfl ν8,s7002,v7003,hg,ς⟩))))
   ·exact no_way (cA hcl 6 5 rfl ν6) hSi
   ·exact no_way (cA hcl 6 5 rfl ν6) hSi
  ·obtain rfl:_=o:=Option.some.inj ho
   have hd3:S 3=true:=depAt hdep 0 rfl rfl
   have hd5:S 5=true:=depAt hdep 1 rfl rfl
   have hd2:S 2=true:=depAt hdep 2 rfl rfl
   rcases hI with ⟨ν2,_⟩|⟨_,ν3,_⟩|⟨ν2,_⟩|⟨ν2,ν3,ν6,ν8,s7002,v7003,φ,ς⟩|⟨_,_,ν6,_⟩|⟨_,_,ν6,_⟩
   ·exact no_way hd2 ν2
   ·exact no_way hd3 ν3
   ·exact no_way hd2 ν2
   ·have hs:=St.mk (Fr.cons (Fr.cons φ.fr0 (φ.at_ 5 3 6 _ rfl hd3)) (φ.at_ 3 5 8 _ rfl hd5)) ς
    refine step_ex (x_call hs bd_124 rfl rfl rfl rfl rfl (repeat_c (⟨v7003, [(-1)]⟩:Ls Int) Lk _ (hs.sh.own 0 rfl) rfl (by omega))) (wanted_none rfl _) ?_
    rintro a36 w36 ⟨_,⟨s36,rfl,hs36⟩,hf36⟩ ⟨v0,ht36⟩
    have h36:St _ (fun _=>False) W a36 w36 _ _:=⟨hf36,hs.sh.callI hs36⟩
    clear hf36 hs36
    exact Or.inr (Or.inr (Or.inr (Or.inr (Or.inl (⟨un rfl ν2,un rfl ν3,upd_self _ _,un rfl ν8,s7002,v7003,s36,φ.stepW hcl hSi [0,1,2,3,4,5] (by kernel_rfl) (by kernel_rfl) ht36 h36.fr.defers (h36.fr.at_ 9 _ rfl) 6 rfl rfl rfl rfl,(h36.sh.sel [0,1,2,3,4] rfl)⟩)))))
   ·exact no_way ν6 hSi
   ·exact no_way ν6 hSi
  ·obtain rfl:_=o:=Option.some.inj ho
   have hd2:S 2=true:=depAt hdep 0 rfl rfl
   have hd6:S 6=true:=depAt hdep 1 rfl rfl
   rcases hI with ⟨ν2,_⟩|⟨_,ν3,_⟩|⟨ν2,_⟩|⟨_,_,ν6,_⟩|⟨ν2,ν3,ν6,ν8,s7002,v7003,s7006,φ,ς⟩|⟨_,_,_,ν8,_⟩
   ·exact no_way hd2 ν2
   ·exact no_way (cA hcl 6 3 rfl hd6) ν3
   ·exact no_way hd2 ν2
   ·exact no_way hd6 ν6
   ·have hs:=St.mk (Fr.cons (Fr.cons φ.fr0 (φ.at_ 4 2 5 _ rfl hd2)) (φ.at_ 6 6 9 _ rfl hd6)) ς
    exact sq φ (Fr.cons (Fr.cons φ.fr0 (φ.at_ 4 2 5 _ rfl hd2)) (φ.at_ 6 6 9 _ rfl hd6)) ς (r_build (cs:= [s7002.v,s7006.v]) rfl rfl (by obtain ⟨A38,n38,c38,(e38:s7006.v=_)⟩:=((hs.sh.own 0 rfl)).form;rw [e38];obtain ⟨A37,n37,c37,(e37:s7002.v=_)⟩:=((hs.sh.own 2 rfl)).form;rw [e37];kernel_rfl)) 7 rfl rfl rfl rfl rfl rfl fun a hg=>Or.inr (Or.inr (Or.inr (Or.inr (Or.inl (⟨un rfl ν2,un rfl ν3,un rfl ν6,un rfl ν8,s7002,v7003,s7006,hg,ς⟩)))))
   ·exact no_way (cA hcl 8 7 rfl ν8) hSi
  ·obtain rfl:_=o:=Option.some.inj ho
   have hd7:S 7=true:=depAt hdep 0 rfl rfl
   rcases hI with ⟨ν2,_⟩|⟨_,ν3,_⟩|⟨ν2,_⟩|⟨_,_,ν6,_⟩|⟨ν2,ν3,ν6,ν8,s7002,v7003,s7006,φ,ς⟩|⟨_,_,_,ν8,_⟩
   ·exact no_way (cA hcl 7 2 rfl hd7) ν2
   ·exact no_way (cA hcl 7 3 rfl hd7) ν3
   ·exact no_way (cA hcl 7 2 rfl hd7) ν2
   ·exact no_way (cA hcl 7 6 rfl hd7) ν6
   ·have hs:=St.mk (Fr.cons φ.fr0 (φ.at_ 7 7 10 _ rfl hd7)) ς
    refine step_ex (x_box (cs:= [s7002.v,s7006.v]) hs rfl rfl rfl rfl rfl) (wanted_none rfl _) ?_
    rintro a40 w40 ⟨b40,h40⟩ ⟨v0,ht40⟩
    exact Or.inr (Or.inr (Or.inr (Or.inr (Or.inr (⟨un rfl ν2,un rfl ν3,un rfl ν6,upd_self _ _,s7002,v7003,s7006,b40,φ.stepW hcl hSi [0,1,2,3,4,5,6,7] (by kernel_rfl) (by kernel_rfl) ht40 h40.fr.defers (h40.fr.at_ 11 _ rfl) 8 rfl rfl rfl rfl,(h40.sh.sel [0,1,2,3,4,5] rfl)⟩)))))
   ·exact no_way ν8 hSi
  ·obtain rfl:_=o:=Option.some.inj ho
   have hd8:S 8=true:=depAt hdep 0 rfl rfl
   have hd6:S 6=true:=depAt hdep 1 rfl rfl
   have hd2:S 2=true:=depAt hdep 4 rfl rfl
   have hd3:S 3=true:=depAt hdep 5 rfl rfl
   rcases hI with ⟨ν2,_⟩|⟨_,ν3,_⟩|⟨ν2,_⟩|⟨_,_,ν6,_⟩|⟨_,_,_,ν8,_⟩|⟨ν2,ν3,ν6,ν8,s7002,v7003,s7006,b7008,φ,ς⟩
   ·exact no_way hd2 ν2
   ·exact no_way hd3 ν3
   ·exact no_way hd2 ν2
   ·exact no_way hd6 ν6
   ·exact no_way hd8 ν8
   ·exact sq φ (Fr.cons φ.fr0 (φ.at_ 8 8 11 _ rfl hd8)) ς (r_assign rfl rfl) 9 rfl rfl rfl rfl rfl rfl fun a hg=>Or.inr (Or.inr (Or.inr (Or.inr (Or.inr (⟨un rfl ν2,un rfl ν3,un rfl ν6,un rfl ν8,s7002,v7003,s7006,b7008,hg,ς⟩)))))
  · simp at ho
 intro S hall a w hI
 clear h14
 rcases hI with ⟨ν2,ν3,ν6,ν8,φ,ς⟩|⟨ν2,ν3,ν6,ν8,s7002,φ,ς⟩|⟨ν2,ν3,ν6,ν8,v7003,φ,ς⟩|⟨ν2,ν3,ν6,ν8,s7002,v7003,φ,ς⟩|⟨ν2,ν3,ν6,ν8,s7002,v7003,s7006,φ,ς⟩|⟨ν2,ν3,ν6,ν8,s7002,v7003,s7006,b7008,φ,ς⟩
 · exact no_way (hall 2 (by decide)) ν2
 · exact no_way (hall 3 (by decide)) ν3
 · exact no_way (hall 2 (by decide)) ν2
 · exact no_way (hall 6 (by decide)) ν6
 · exact no_way (hall 8 (by decide)) ν8
 have h42:St 12 (fun _=>False) W a w _ _:=⟨(Fr.cons φ.fr0 (φ.at_ 9 9 2 _ rfl (hall 9 (by decide)))),ς⟩
 clear hall φ ς ν2 ν3 ν6 ν8
 refine gG h42<|hK k13<|gR<|fun a43 w43 h43=> ?_;clear h42
 try simp only [Exit.then,Exit.inBlock]
 refine x_ret1 (fn:=Tryz.f81) (t:=2) rfl h43 rfl ?_
 exact ⟨b7008,⟨s7002.v,words.l⟩,⟨s7006.v,List.replicate Lk (nth ([(-1)]) 0)⟩,rfl,rfl,rfl,(h43.sh.sel [0,3,1] rfl)⟩
theorem plLoad_c (g:Nat) (words owner:Ls Int) (t a b:Int) (W:World) (hB:Blk W g 182 #[words.v,owner.v]) (hw:words.At W) (ho:owner.At W) (ha:0≤a∧a<words.l.length):
    Rets Tryz.prog 202 [.pointer (some ⟨g,0,none⟩), .int .i64 t, .int .i64 a] W (fun v w' =>v= .int .i64 (nth words.l a.toNat)∧Sh0 W w' []):=by
 refine gen Tryz.func202 Tryz.ntmps202 (Sh0.ext (by intro A hA;simp only [List.mem_cons,List.not_mem_nil,or_false] at hA;rcases hA with rfl|rfl|rfl;exact hB;exact hw;exact ho) (by intro A hA b hb;simp only [List.mem_cons,List.not_mem_nil,or_false] at hA;rcases hA with rfl|rfl|rfl<;>exact hb):Sh (fun _=>False) W W [.rblk g 182 [words.v,owner.v], .at_ words, .at_ owner]) rfl fun a10 h10=>gG h10<|sG (oM 1 rfl<|.nl)<|sK fun _ k12=>gNl (aA 1 rfl) fun hl13=>gRn (oM 1 rfl<|onf fl_182_0 rfl<|olR 0 ti_23 rfl rfl<|oM 1 rfl<|oxI sl_23 ti_3 (aA 1 rfl) om9 rfl<|olI ti_3 (aA 1 rfl) om9 rfl<|oM 1 rfl<|.nl)<|nK k12<|gR<|fun a14 w14 h14=> ?_;clear h10
 try simp only [Exit.then,Exit.inBlock]
 refine x_ret1 (fn:=Tryz.f202) (t:=6) rfl h14 rfl ?_
 exact ⟨rfl,(h14.sh.sel [] rfl)⟩
theorem plBase_c (g:Nat) (words owner:Ls Int) (t a b:Int) (W:World) (hB:Blk W g 182 #[words.v,owner.v]) (hw:words.At W) (ho:owner.At W):
    Rets Tryz.prog 197 [.pointer (some ⟨g,0,none⟩)] W (fun v w' =>v= .pointer (some ⟨g,0,none⟩)∧Sh0 W w' []):=by
 refine gen Tryz.func197 Tryz.ntmps197 (Sh0.ext (by intro A hA;simp only [List.mem_cons,List.not_mem_nil,or_false] at hA;rcases hA with rfl|rfl|rfl;exact hB;exact hw;exact ho) (by intro A hA b hb;simp only [List.mem_cons,List.not_mem_nil,or_false] at hA;rcases hA with rfl|rfl|rfl<;>exact hb):Sh (fun _=>False) W W [.rblk g 182 [words.v,owner.v], .at_ words, .at_ owner]) rfl fun a10 h10=>gG h10<|sG (oM 1 rfl<|.nl)<|sG (oM 2 rfl<|.nl)<|gR<|fun a13 w13 h13=> ?_;clear h10
 try simp only [Exit.then,Exit.inBlock]
 refine x_ret1 (fn:=Tryz.f197) (t:=2) rfl h13 rfl ?_
 exact ⟨rfl,(h13.sh.sel [] rfl)⟩
theorem plStore_c (K:Nat→Prop) (g:Nat) (words owner:Ls Int) (t a b:Int) (W:World) (hS:Sh K W W [.blk g 182 [words.v,owner.v], .own 3 words, .own 3 owner]) (ha:0≤a∧a<words.l.length):
    Rets Tryz.prog 204 [.pointer (some ⟨g,0,none⟩), .int .i64 t, .int .i64 a, .int .i64 b] W (fun v w' =>v= .tuple #[]∧Sh K W w' [.blk g 182 [words.v,owner.v], .own 3 (⟨words.v,words.l.set a.toNat b⟩:Ls Int), .own 3 (⟨owner.v,owner.l⟩:Ls Int)]):=by
 refine gen Tryz.func204 Tryz.ntmps204 hS rfl fun a10 h10=>gG h10<|gL<|gNl (aO 1 rfl) fun hl11=>gRn (oM 1 rfl<|onfl 0 fl_182_0 ti_23 rfl rfl<|oM 2 rfl<|oxI sl_23 ti_3 (aO 1 rfl) om9 rfl<|.nl)<|gte 1 (b:Int) ti_3 om9 rfl rfl<|nN<|fun a13 w13 h13=> ?_;clear h10
 try simp only [Exit.then,Exit.inBlock,if_true]
 refine x_end0 (fn:=Tryz.f204) rfl h13 ?_
 exact ⟨rfl,h13.sh⟩
theorem plSwap_c (K:Nat→Prop) (g:Nat) (words owner:Ls Int) (t a b:Int) (W:World) (hS:Sh K W W [.blk g 182 [words.v,owner.v], .own 3 words, .own 3 owner]) (ha:0≤a∧a<words.l.length):
    Rets Tryz.prog 205 [.pointer (some ⟨g,0,none⟩), .int .i64 t, .int .i64 a, .int .i64 b] W (fun v w' =>v= .tuple #[]∧Sh K W w' [.blk g 182 [words.v,owner.v], .own 3 (⟨words.v,words.l.set a.toNat b⟩:Ls Int), .own 3 (⟨owner.v,owner.l⟩:Ls Int)]):=by
 refine gen Tryz.func205 Tryz.ntmps205 hS rfl fun a10 h10=>gG h10<|gL<|gNl (aO 1 rfl) fun hl11=>gRn (oM 1 rfl<|onfl 0 fl_182_0 ti_23 rfl rfl<|oM 2 rfl<|oxI sl_23 ti_3 (aO 1 rfl) om9 rfl<|.nl)<|gte 1 (b:Int) ti_3 om9 rfl rfl<|nN<|fun a13 w13 h13=> ?_;clear h10
 try simp only [Exit.then,Exit.inBlock,if_true]
 refine x_end0 (fn:=Tryz.f205) rfl h13 ?_
 exact ⟨rfl,h13.sh⟩
theorem plFree_c (K:Nat→Prop) (g:Nat) (words owner:Ls Int) (t a b:Int) (W:World) (hS:Sh K W W [.blk g 182 [words.v,owner.v], .own 3 words, .own 3 owner]) (ha:0≤a∧a<owner.l.length):
    Rets Tryz.prog 200 [.pointer (some ⟨g,0,none⟩), .int .i64 t, .int .i64 a] W (fun v w' =>v= .tuple #[]∧Sh K W w' [.blk g 182 [words.v,owner.v], .own 3 (⟨words.v,words.l⟩:Ls Int), .own 3 (⟨owner.v,owner.l.set a.toNat (-1)⟩:Ls Int)]):=by
 refine gen Tryz.func200 Tryz.ntmps200 hS rfl fun a10 h10=>gG h10<|gL<|gNl (aO 2 rfl) fun hl11=>gRn (oM 1 rfl<|onfl 0 fl_182_1 ti_23 rfl rfl<|oM 1 rfl<|oxI sl_23 ti_3 (aO 2 rfl) om9 rfl<|.nl)<|gte 2 ((-1):Int) ti_3 om9 rfl rfl<|nN<|fun a13 w13 h13=> ?_;clear h10
 try simp only [Exit.then,Exit.inBlock,if_true]
 refine x_end0 (fn:=Tryz.f200) rfl h13 ?_
 exact ⟨rfl,h13.sh⟩
end Go.Proofs.YtmjkobhkkjgplaaGreatDoor
