/- Outcomes are sorted, and each is left once. -/
import Derived.Test.YtmjkobhkkjgplaaGreatDoorDS
import Derived.Test.YtmjkobhkkjgplaaGreatDoorS31
import Derived.Shelf.SlSortCmp.NoneTotal
import Derived.Test.YtmjkobhkkjgplaaGreatDoorS28
import Derived.Test.YtmjkobhkkjgplaaGreatDoorS22
import Derived.Test.YtmjkobhkkjgplaaGreatDoorS10
import Derived.Test.YtmjkobhkkjgplaaGreatDoorL5
import Derived.Shelf.SlLaysF0
import Derived.Test.YtmjkobhkkjgplaaGreatDoorX0
import Derived.Test.YtmjkobhkkjgplaaGreatDoorX2
section
namespace Go.Proofs.YtmjkobhkkjgplaaGreatDoor.Dr
open Go.RowKit
set_option linter.unusedSimpArgs false
set_option linter.unusedVariables false
set_option maxRecDepth 100000
set_option maxHeartbeats 2000000
def cmpI (a b:Int):Int:=if a<b then-1 else if b<a then 1 else 0
def cmpL :List Int→List Int→Int
 | [], []=>0
 | [],_::_=> -1
 |_::_, []=>1
 |a::l,b::m=>if cmpI a b≠0 then cmpI a b else cmpL l m
def orL :List Int→Int
 | []=>0
 |a::l=>if a≠0 then a else orL l
theorem drop_nth {l:List Int} {i:Nat} (h:i<l.length):l.drop i=nth l i::l.drop (i+1):=by rw [nth_lt _ _ h];exact List.drop_eq_getElem_cons h
theorem orL_yes {l:List Int} {i:Nat} (h:i<l.length) (hi:orL (l.drop i)=orL l) (hn:¬nth l i=0):nth l i=orL l:=by rw [←hi,drop_nth h,orL,if_pos hn]
theorem orL_no {l:List Int} {i:Nat} (h:i<l.length) (hi:orL (l.drop i)=orL l) (hn:nth l i=0):orL (l.drop (i+1))=orL l:=by rw [←hi,drop_nth h,orL,if_neg (by simpa using hn)]
theorem orL_end {l:List Int} {i:Nat} (h:i=l.length) (hi:orL (l.drop i)=orL l):0=orL l:=by rw [←hi,h,List.drop_length];rfl
theorem cmpL_yes {x y:List Int} {i:Nat} (h:i<x.length) (h2:i<y.length) (hi:cmpL (x.drop i) (y.drop i)=cmpL x y) (hn:¬cmpI (nth x i) (nth y i)=0):cmpI (nth x i) (nth y i)=cmpL x y:=by rw [←hi,drop_nth h,drop_nth h2,cmpL,if_pos hn]
theorem cmpL_no {x y:List Int} {i:Nat} (h:i<x.length) (h2:i<y.length) (hi:cmpL (x.drop i) (y.drop i)=cmpL x y) (hn:cmpI (nth x i) (nth y i)=0):cmpL (x.drop (i+1)) (y.drop (i+1))=cmpL x y:=by rw [←hi,drop_nth h,drop_nth h2,cmpL,if_neg (by simpa using hn)]
theorem cmpL_long {x y:List Int} {i:Nat} (h:i<x.length) (h2:y.length≤i) (hi:cmpL (x.drop i) (y.drop i)=cmpL x y):1=cmpL x y:=by rw [←hi,drop_nth h,List.drop_of_length_le h2];rfl
theorem cmpL_end {x y:List Int} {i:Nat} (h:i=x.length) (hi:cmpL (x.drop i) (y.drop i)=cmpL x y):(if i<y.length then-1 else 0)=cmpL x y:=by
 rw [←hi,h,List.drop_length]
 by_cases h2:x.length<y.length
 ·rw [if_pos h2,drop_nth h2];rfl
 ·rw [if_neg h2,List.drop_of_length_le (by omega)];rfl
def ordO (a b:OutL):Int:=orL [cmpI a.st b.st,cmpL a.words.l b.words.l,cmpL a.prints.l b.prints.l]
theorem nan_c (a:Int) (W:World):
    Rets Tryz.prog 95 [.int .i64 a] W (fun v w' =>v= .bool false∧Sh0 W w' []):=by
 refine gen Tryz.func95 Tryz.ntmps95 (Sh0.start _:Sh (fun _=>False) W W []) rfl fun a10 h10=>gG h10<|sG (oM 1 rfl<|.nl)<|sG (oM 2 rfl<|oneI _ _ rfl<|oM 1 rfl<|.nl)<|gR<|fun a13 w13 h13=> ?_;clear h10
 try simp only [Exit.then,Exit.inBlock]
 refine x_ret1 (fn:=Tryz.f95) (t:=2) rfl h13 rfl<|⟨?_,(h13.sh.sel [] rfl)⟩
 simp
theorem cmpI_c (a b:Int) (W:World):
    Rets Tryz.prog 55 [.int .i64 a, .int .i64 b] W (fun v w' =>v= .int .i64 (cmpI a b)∧Sh0 W w' []):=by
 refine gen Tryz.func55 Tryz.ntmps55 (Sh0.start _:Sh (fun _=>False) W W []) rfl fun a10 h10=>gG h10<|sG (oM 1 rfl<|.nl)<|sK fun _ k12=>gRn (oM 1 rfl<|.nl)<|gP (fun _ _ h_=>xCl h_ bd_95 rfl (nan_c a _)) rfl<|gRn (oM 1 rfl<|.nl)<|nK k12<|sK fun _ k14=>gRn (oM 1 rfl<|.nl)<|gP (fun _ _ h_=>xCl h_ bd_95 rfl (nan_c b _)) rfl<|gRn (oM 1 rfl<|.nl)<|nK k14<|gK fun _ k16=>sG (oM 1 rfl<|.nl)<|gcF rfl rfl<|gS<|hK k16<|gK fun _ k18=>sG (oM 1 rfl<|.nl)<|gcF rfl rfl<|gS<|hK k18<|gK fun _ k20=>sG (oM 2 rfl<|oltI _ _ rfl<|.nl)<|?_;clear h10
 refine gcd rfl (fun hb22 hp22=> ?_) fun hb22 hp22=> ?_
 ·skip
  refine sG (oM 1 rfl<|.nl)<|gR<|fun a24 w24 h24=> ?_
  try simp only [Exit.then,Exit.inBlock]
  refine x_ret1 (fn:=Tryz.f55) (t:=4) rfl h24 rfl<|⟨?_,(h24.sh.sel [] rfl)⟩
  unfold cmpI
  first|(rw [if_pos (by omega)];done)|(rw [if_neg (by omega),if_pos (by omega)];done)|(rw [if_neg (by omega),if_neg (by omega)])
 refine gS<|hK k20<|gK fun _ k25=>sG (oM 2 rfl<|ogtI _ _ rfl<|.nl)<|gcd rfl (fun hb27 hp27=> ?_) fun hb27 hp27=> ?_
 ·skip
  refine sG (oM 1 rfl<|.nl)<|gR<|fun a29 w29 h29=> ?_
  try simp only [Exit.then,Exit.inBlock]
  refine x_ret1 (fn:=Tryz.f55) (t:=4) rfl h29 rfl<|⟨?_,(h29.sh.sel [] rfl)⟩
  unfold cmpI
  first|(rw [if_pos (by omega)];done)|(rw [if_neg (by omega),if_pos (by omega)];done)|(rw [if_neg (by omega),if_neg (by omega)])
 refine gS<|hK k25<|sG (oM 1 rfl<|.nl)<|gR<|fun a31 w31 h31=> ?_
 try simp only [Exit.then,Exit.inBlock]
 refine x_ret1 (fn:=Tryz.f55) (t:=4) rfl h31 rfl<|⟨?_,(h31.sh.sel [] rfl)⟩
 unfold cmpI
 first|(rw [if_pos (by omega)];done)|(rw [if_neg (by omega),if_pos (by omega)];done)|(rw [if_neg (by omega),if_neg (by omega)])
theorem orL_c (x:Ls Int) (W:World) (hx:x.At W):
    Rets Tryz.prog 54 [x.v] W (fun v w' =>v= .int .i64 (orL x.l)∧Sh0 W w' []):=by
 refine gen Tryz.func54 Tryz.ntmps54 (Sh0.ext1 hx:Sh (fun _=>False) W W [.at_ x]) rfl fun a10 h10=>gG h10<|sG (oM 1 rfl<|.nl)<|sG (oM 1 rfl<|.nl)<|gK fun _ k13=>sK fun _ k14=>gNl (aA 0 rfl) fun hl15=>gRn (oM 1 rfl<|oln sl_23 (aA 0 rfl) rfl<|oM 1 rfl<|.nl)<|nK k14<|gB<|fun a17 w17 h17=>x_loop (fun m a w=>∃(i:Nat),(i≤x.l.length)∧(orL (x.l.drop i)=orL x.l)∧St 18 (fun _=>False) W a w [(3, .int .i64 0),(6,x.v),(7, .int .i64 ((x.l.length:Nat):Int)),(8, .int .i64 ((i:Nat):Int))] [.at_ x]∧m=x.l.length-i) ⟨_,0,(by omega),(rfl),h17.nf ⟨rfl,rfl,rfl,rfl,trivial⟩,rfl⟩ ?_;clear h10
 clear h17
 rintro m16 a16 w16 ⟨i,hi,hor,h16,hm16⟩
 refine gG h16<|sG (oltN _ _ rfl<|.nl)<|gK fun _ k19=>gcd rfl (fun hb20 hp20=> ?_) fun hb20 hp20=> ?_;clear h16
 ·skip
  refine gS<|hK k19<|gK fun _ k21=>gB<|sG (oxN sl_23 ti_3 (aA 0 rfl) _ om9 rfl<|olI ti_3 (aA 0 rfl) om9 rfl<|oM 1 rfl<|.nl)<|sG (oM 2 rfl<|oneI _ _ rfl<|.nl)<|gcd rfl (fun hb24 hp24=> ?_) fun hb24 hp24=> ?_
  ·skip
   refine sG (oM 2 rfl<|.nl)<|gR<|fun a26 w26 h26=> ?_
   try simp only [Exit.then,Exit.inBlock]
   refine x_ret1 (fn:=Tryz.f54) (t:=2) rfl h26 rfl<|⟨?_,(h26.sh.sel [] rfl)⟩
   congr 1
   first|exact orL_yes (by omega) hor (by omega)|exact orL_end (by omega) hor
  refine gS<|hK k21<|gL<|gRn (oadN _ 1 om9 rfl<|oM 1 rfl<|.nl)<|nN<|fun a27 w27 h27=>x_again ⟨_, ?_,i+1, ?_, ?_,h27.nf ⟨rfl,rfl,rfl,rfl,trivial⟩,rfl⟩
  · rw [hm16];first|omega|(simp only [lens9];omega)
  · omega
  · exact orL_no (by omega) hor (by omega)
 refine gX<|hK k13<|sG (oM 2 rfl<|.nl)<|gR<|fun a29 w29 h29=> ?_
 try simp only [Exit.then,Exit.inBlock]
 refine x_ret1 (fn:=Tryz.f54) (t:=2) rfl h29 rfl<|⟨?_,(h29.sh.sel [] rfl)⟩
 congr 1
 first|exact orL_yes (by omega) hor (by omega)|exact orL_end (by omega) hor
theorem cmpL_c (x y:Ls Int) (W:World) (hx:x.At W) (hy:y.At W):
    Rets Tryz.prog 140 [x.v,y.v] W (fun v w' =>v= .int .i64 (cmpL x.l y.l)∧Sh0 W w' []):=by
 refine gen Tryz.func140 Tryz.ntmps140 (Sh0.ext2 hx hy:Sh (fun _=>False) W W [.at_ x, .at_ y]) rfl fun a10 h10=>gG h10<|sG (oM 1 rfl<|.nl)<|gK fun _ k12=>sK fun _ k13=>gNl (aA 0 rfl) fun hl14=>gRn (oM 1 rfl<|oln sl_23 (aA 0 rfl) rfl<|oM 1 rfl<|.nl)<|nK k13<|gB<|fun a16 w16 h16=>x_loop (fun m a w=>∃(i:Nat),(i≤x.l.length)∧(cmpL (x.l.drop i) (y.l.drop i)=cmpL x.l y.l)∧(i≤y.l.length)∧St 36 (fun _=>False) W a w [(0,x.v),(1,y.v),(9,x.v),(10, .int .i64 ((x.l.length:Nat):Int)),(11, .int .i64 ((i:Nat):Int))] [.at_ x, .at_ y]∧m=x.l.length-i) ⟨_,0,(by omega),(rfl),(by omega),h16.nf ⟨rfl,rfl,rfl,rfl,rfl,trivial⟩,rfl⟩ ?_;clear h10
 clear h16
 rintro m15 a15 w15 ⟨i,hi,hcm,hiy,h15,hm15⟩
 refine gG h15<|sG (oltN _ _ rfl<|.nl)<|gK fun _ k18=>gcd rfl (fun hb19 hp19=> ?_) fun hb19 hp19=> ?_;clear h15
 ·skip
  refine gS<|hK k18<|gK fun _ k20=>gB<|sG (oM 1 rfl<|oxN sl_23 ti_3 (aA 0 rfl) _ om9 rfl<|olI ti_3 (aA 0 rfl) om9 rfl<|oM 2 rfl<|.nl)<|gK fun _ k22=>sK fun _ k23=>gNl (aA 1 rfl) fun hl24=>gRn (oM 2 rfl<|oln sl_23 (aA 1 rfl) rfl<|ogeN _ _ rfl<|.nl)<|nK k23<|gcd rfl (fun hb25 hp25=> ?_) fun hb25 hp25=> ?_
  ·skip
   refine sG (oM 1 rfl<|.nl)<|gR<|fun a27 w27 h27=> ?_
   try simp only [Exit.then,Exit.inBlock]
   refine x_ret1 (fn:=Tryz.f140) (t:=4) rfl h27 rfl<|⟨?_,(h27.sh.sel [] rfl)⟩
   congr 1
   first|exact cmpL_yes (by omega) (by omega) hcm (by omega)|exact cmpL_long (by omega) (by omega) hcm|(rw [←cmpL_end (show i=x.l.length by omega) hcm,if_pos (by omega)];done)|(rw [←cmpL_end (show i=x.l.length by omega) hcm,if_neg (by omega)])
  refine gS<|hK k22<|sG (oM 2 rfl<|oxN sl_23 ti_3 (aA 1 rfl) _ om9 rfl<|olI ti_3 (aA 1 rfl) om9 rfl<|oM 1 rfl<|.nl)<|sK fun _ k29=>gRn (oM 2 rfl<|.nl)<|gP (fun _ _ h_=>xCl h_ bd_55 rfl (cmpI_c (nth x.l i) (nth y.l i) _)) rfl<|gRn (oM 1 rfl<|.nl)<|nK k29<|sG (oM 1 rfl<|oneI _ _ rfl<|.nl)<|gcd rfl (fun hb32 hp32=> ?_) fun hb32 hp32=> ?_
  ·skip
   refine sG (oM 2 rfl<|.nl)<|gF [4] rfl<|gR<|fun a34 w34 h34=> ?_
   try simp only [Exit.then,Exit.inBlock]
   refine x_ret1 (fn:=Tryz.f140) (t:=4) rfl h34 rfl<|⟨?_,(h34.sh.sel [] rfl)⟩
   congr 1
   first|exact cmpL_yes (by omega) (by omega) hcm (by omega)|exact cmpL_long (by omega) (by omega) hcm|(rw [←cmpL_end (show i=x.l.length by omega) hcm,if_pos (by omega)];done)|(rw [←cmpL_end (show i=x.l.length by omega) hcm,if_neg (by omega)])
  refine gS<|hK k20<|gL<|gRn (oadN _ 1 om9 rfl<|oM 1 rfl<|.nl)<|nN<|fun a35 w35 h35=>x_again ⟨_, ?_,i+1, ?_, ?_, ?_,h35.nf ⟨rfl,rfl,rfl,rfl,rfl,trivial⟩,rfl⟩
  · rw [hm15];first|omega|(simp only [lens9];omega)
  · omega
  · exact cmpL_no (by omega) (by omega) hcm (by omega)
  · omega
 refine gX<|hK k12<|gK fun _ k36=>sK fun _ k37=>gNl (aA 1 rfl) fun hl38=>gRn (oM 1 rfl<|oln sl_23 (aA 0 rfl) rfl<|oM 1 rfl<|oln sl_23 (aA 1 rfl) rfl<|oltN _ _ rfl<|.nl)<|nK k37<|gcd rfl (fun hb39 hp39=> ?_) fun hb39 hp39=> ?_
 ·skip
  refine sG (oM 1 rfl<|.nl)<|gR<|fun a41 w41 h41=> ?_
  try simp only [Exit.then,Exit.inBlock]
  refine x_ret1 (fn:=Tryz.f140) (t:=4) rfl h41 rfl<|⟨?_,(h41.sh.sel [] rfl)⟩
  congr 1
  first|exact cmpL_yes (by omega) (by omega) hcm (by omega)|exact cmpL_long (by omega) (by omega) hcm|(rw [←cmpL_end (show i=x.l.length by omega) hcm,if_pos (by omega)];done)|(rw [←cmpL_end (show i=x.l.length by omega) hcm,if_neg (by omega)])
 refine gS<|hK k36<|sG (oM 1 rfl<|.nl)<|gR<|fun a43 w43 h43=> ?_
 try simp only [Exit.then,Exit.inBlock]
 refine x_ret1 (fn:=Tryz.f140) (t:=4) rfl h43 rfl<|⟨?_,(h43.sh.sel [] rfl)⟩
 congr 1
 first|exact cmpL_yes (by omega) (by omega) hcm (by omega)|exact cmpL_long (by omega) (by omega) hcm|(rw [←cmpL_end (show i=x.l.length by omega) hcm,if_pos (by omega)];done)|(rw [←cmpL_end (show i=x.l.length by omega) hcm,if_neg (by omega)])
theorem order_c (o1 o2:OutL) (W:World) (ha:Enc.inner o1 W) (hb:Enc.inner o2 W):
    Rets Tryz.prog 98 [.agg #[.int .i64 o1.st,o1.words.v,o1.prints.v], .agg #[.int .i64 o2.st,o2.words.v,o2.prints.v]] W (fun v w' =>v= .int .i64 (ordO o1 o2)∧Sh0 W w' []):=by
 refine gen Tryz.func98 Tryz.ntmps98 (Sh0.ext (by intro A hA;simp only [List.mem_cons,List.not_mem_nil,or_false] at hA;rcases hA with rfl|rfl|rfl|rfl;exact ha.1;exact ha.2;exact hb.1;exact hb.2) (by intro A hA b hb9;simp only [List.mem_cons,List.not_mem_nil,or_false] at hA;rcases hA with rfl|rfl|rfl|rfl<;>exact hb9):Sh (fun _=>False) W W [.at_ o1.words, .at_ o1.prints, .at_ o2.words, .at_ o2.prints]) rfl fun a10 h10=>gG h10<|sK fun _ k11=>gbx rfl rfl fun b12=>gbx rfl rfl fun b13=>gRn (oM 1 rfl<|.nl)<|nK k11<|gK fun _ k14=>fun a15 w15 h15=>x_tail 15 [] (by kernel_rfl) (by kernel_rfl) h15 fun _ z16=>qQ h15.fr<|qRn (ofB fl_39_0 rfl<|olB 1 ti_3 rfl rfl<|ofB fl_39_0 rfl<|olB 0 ti_3 rfl rfl<|.nl)<|qP bd_55 rfl (fun w h=>(cmpI_c o1.st o2.st _))<|qRn (ofB fl_39_1 rfl<|olB 1 ti_23 rfl rfl<|ofB fl_39_1 rfl<|olB 0 ti_23 rfl rfl<|.nl)<|qP bd_140 rfl (fun w h=>(cmpL_c o1.words o2.words _ (h.at 2 rfl) (h.at 4 rfl)))<|qRn (ofB fl_39_2 rfl<|olB 1 ti_23 rfl rfl<|ofB fl_39_2 rfl<|olB 0 ti_23 rfl rfl<|.nl)<|qP bd_140 rfl (fun w h=>(cmpL_c o1.prints o2.prints _ (h.at 3 rfl) (h.at 5 rfl)))<|qN z16<|gE1 (fun _ _ h_=>x_lit (n:=3) (cs:= [.int .i64 (cmpI o1.st o2.st), .int .i64 (cmpL o1.words.l o2.words.l), .int .i64 (cmpL o1.prints.l o2.prints.l)]) ([cmpI o1.st o2.st,cmpL o1.words.l o2.words.l,cmpL o1.prints.l o2.prints.l]:List Int) h_ sl_23 ti_3 rfl rfl rfl (by decide) rfl (by kernel_rfl) rfl (fun q hq w h=>Flat.inner _ _) (fun q hq b hb=>(Flat.on _ _ hb).elim) rfl rfl) rfl fun v17=>gP (fun _ _ h_=>xCl h_ bd_54 rfl (orL_c (⟨v17, [cmpI o1.st o2.st,cmpL o1.words.l o2.words.l,cmpL o1.prints.l o2.prints.l]⟩:Ls Int) _ (h_.sh.own 0 rfl))) rfl<|gRn (oM 1 rfl<|.nl)<|nK k14<|gR<|fun a19 w19 h19=> ?_;clear h10 h15
 try simp only [Exit.then,Exit.inBlock]
 refine x_ret1 (fn:=Tryz.f98) (t:=4) rfl h19 rfl ?_
 exact ⟨rfl,(h19.sh.sel [] rfl)⟩
end Go.Proofs.YtmjkobhkkjgplaaGreatDoor.Dr
end
section
namespace Go.Proofs.YtmjkobhkkjgplaaGreatDoor
open Go.RowKit Go.Sort Go.Shelf
set_option linter.unusedSimpArgs false
set_option linter.unusedVariables false
theorem grown_of {w w' :World} (h:Dr.Chg (fun _=>False) w w'):∃q os,w' =grow (w.drewN q) os:=by
 obtain ⟨h1,h2,h3,h4,h5,h6⟩:=h
 refine ⟨w'.drawn-w.drawn,w'.heap.extract w.heap.size w'.heap.size, ?_⟩
 obtain ⟨heap,tape,drawn,os,output⟩:=w
 obtain ⟨heap',tape',drawn',os',output'⟩:=w'
 simp only at h1 h2 h3 h4 h5 h6
 subst h1 h2 h3
 have e1:heap' =heap++heap'.extract heap.size heap'.size:=by
  apply Array.ext_getElem?
  intro b
  rw [Array.getElem?_append]
  by_cases hb:b<heap.size
  ·rw [if_pos hb];exact h5 b hb (fun h=>h)
  ·rw [if_neg hb,Array.getElem?_extract]
   by_cases hb' :b<heap'.size
   ·rw [if_pos (by omega)];congr 1;omega
   ·rw [if_neg (by omega),Array.getElem?_eq_none (by omega)]
 have e2:drawn' =drawn+(drawn' -drawn):=by omega
 unfold grow World.drewN
 show World.mk heap' tape' drawn' os' output' =World.mk (heap++_) tape' (drawn+_) os' output'
 rw [←e1,←e2]
section
variable {α:Type} [Enc α]
theorem cellsOf_whole (h:Enc.agg α=true) (x:α):(Enc.whole x:Value)= .agg (cellsOf x).toArray:=Enc.many h x
theorem flat_encL {β:Type} [Inhabited β] (f:β→α) (k:Nat) (hk:Enc.sz α=k) (h0:0<k) (d:Array β):(flatK (fun x=>cellsOf (f x)) k d).toList=encL (d.toList.map f):=by
 apply List.ext_getElem?
 intro t
 have hl:(encL (d.toList.map f)).length=d.size*k:=by rw [length_encL,List.length_map,hk];simp
 by_cases ht:t<d.size*k
 ·have hq:t/k<d.size:=(Nat.div_lt_iff_lt_mul h0).2 ht
  have hr:t%k<k:=Nat.mod_lt _ h0
  have e1:=encL_at (d.toList.map f) (t/k) (t%k) (by simpa using hq) (by rw [hk];exact hr)
  rw [hk,show t/k*k+t%k=t by rw [Nat.mul_comm];exact Nat.div_add_mod t k] at e1
  rw [e1]
  have e2:nth (d.toList.map f) (t/k)=f d[t/k]! :=by
   rw [nth_lt _ _ (by simpa using hq),List.getElem_map,getElem!_pos d _ hq]
   simp
  rw [e2]
  have hs:t<(flatK (fun x=>cellsOf (f x)) k d).toList.length:=by simp [flatK,ht]
  rw [List.getElem?_eq_getElem hs]
  congr 1
  simp only [flatK,Array.getElem_toList,Array.getElem_map,Array.getElem_range]
  have hc:t%k<(cellsOf (f d[t/k]!)).length:=by rw [length_cellsOf,hk];exact hr
  rw [getElem!_pos (cellsOf (f d[t/k]!)) (t%k) hc]
  simp [cellsOf]
 ·rw [List.getElem?_eq_none (by simp [flatK];omega),List.getElem?_eq_none (by omega)]
theorem putCells_list (F c:Array Value) (h:F.size≤c.size):(putCells id 0 F c).toList.take F.size=F.toList:=by
 apply List.ext_getElem?
 intro t
 rw [List.getElem?_take]
 by_cases ht:t<F.size
 ·rw [if_pos ht,Array.getElem?_toList,Array.getElem?_toList]
  simp only [putCells,Array.getElem?_mapIdx]
  rw [Array.getElem?_eq_getElem (show t<c.size by omega),Array.getElem?_eq_getElem ht,Option.map_some,if_pos ⟨by omega,by omega⟩]
  simp [getElem!_pos,ht]
 ·rw [if_neg ht,List.getElem?_eq_none (by simpa using ht)]
theorem size_putCells (F c:Array Value):(putCells id 0 F c).size=c.size:=by simp [putCells]
variable {β:Type} [Inhabited β]
theorem size_flatK' (enc:β→List Value) (k:Nat) (d:Array β):(flatK enc k d).size=d.size*k:=by simp [flatK]
theorem sortWorld_block (enc:β→List Value) (k:Nat) (w:World) (b n:Nat) (d:Array β) (os:Array Obj) {E:TypeId} {cur:Array Value} (hb:w.heap[b]? =some (.cells cur E (0,0))):
  (sortWorldK enc k w b 0 n d os).heap[b]? =some (.cells (putCells id 0 (flatK enc k d) cur) E (0,0)):=by
 have hlt:b<w.heap.size:=(Array.getElem?_eq_some_iff.1 hb).1
 show ((w.heap.modify b _)++os)[b]? =_
 rw [Array.getElem?_append,if_pos (by simpa using hlt),Array.getElem?_modify,if_pos rfl,hb]
 rfl
theorem sortWorld_chg (enc:β→List Value) (k:Nat) (w:World) (b n:Nat) (d:Array β) (os:Array Obj):Chg (fun c=>c=b) w (sortWorldK enc k w b 0 n d os):=by
 refine ⟨rfl,rfl,rfl, ?_,fun c hc hne=> ?_⟩
 ·show _≤((w.heap.modify b _)++os).size
  simp
 ·show ((w.heap.modify b _)++os)[c]? =_
  rw [Array.getElem?_append,if_pos (by simpa using hc),Array.getElem?_modify,if_neg (fun e=>hne e.symm)]
theorem sort_c {P:Program} {ρ:Ren} (L6:SlLaysF0.n6 P ρ) {k:Nat} (aE:∀w,(isAgg (ρ.t 24)).run P w= .ok true w) (zE:∀w,(Go.sizeOf (ρ.t 24)).run P w= .ok k w) [One α] (hag:Enc.agg α=true) (hk:Enc.sz α=k) (h0:0<k)
  (cf:α→α→Int) (hO1:∀x,¬cf x x<0) (hO2:∀x y z,cf x y<0→cf y z<0→cf x z<0) (hO3:∀x y z,¬cf x y<0→¬cf y z<0→¬cf x z<0) (g:FuncId) (eg:∀args w,(callFunc g args).run P w= .ok (.enter g args) w) {K:Nat→Prop} {W:World} {E:TypeId} {s:Ls α} (hS:Sh K W W [.own E s])
  (hc:∀x∈s.l,∀y∈s.l,∀W',Enc.inner x W' →Enc.inner y W' →Calls P g #[Enc.whole x,Enc.whole y] W' fun e w' =>e= .returned (.int .i64 (cf x y))∧Dr.Chg (fun _=>False) W' w'):
  Rets P (ρ.f 6) [s.v, .func (.func g) #[] #[]] W (fun v w' =>v= .tuple #[]∧∃l' :List α,l'.Perm s.l∧l'.Pairwise (fun a b=>¬cf b a<0)∧Sh K W w' [.own E (⟨s.v,l'⟩:Ls α)]):=by
 have hnil:∀(p:Option Addr) (cap:Nat),s.v= .slice p 0 cap→s.l= []→Rets P (ρ.f 6) [s.v, .func (.func g) #[] #[]] W (fun v w' =>v= .tuple #[]∧∃l' :List α,l'.Perm s.l∧l'.Pairwise (fun a b=>¬cf b a<0)∧Sh K W w' [.own E (⟨s.v,l'⟩:Ls α)]):=by
  intro p cap hv hn
  rw [hv]
  refine Calls.mono (AnyF.slices_SortFunc_none L6 p cap (.func (.func g) #[] #[]) W) ?_
  rintro e w' ⟨rfl,rfl⟩
  refine ⟨_,rfl,rfl,s.l,List.Perm.refl _,by rw [hn];exact .nil, ?_⟩
  rw [←hv];exact hS
 obtain ⟨⟨hlen,hcase⟩,hl,hin⟩:=hS.ok _ (List.mem_singleton.2 rfl)
 rcases hcase with ⟨hv,hn⟩|⟨b,cap,cur,hv,_,hb,hle,hcm,hcs,htk⟩
 ·exact hnil none 0 hv (List.eq_nil_of_length_eq_zero hn)
 by_cases hn:s.l= []
 ·exact hnil (some ⟨b,0,none⟩) cap (by rw [hv,hn];rfl) hn
 obtain ⟨x0,hx0⟩:=List.exists_mem_of_ne_nil _ hn
 have hself:∀x∈s.l,¬Enc.on x b:=by
  intro x hx hon
  refine hS.self _ (List.mem_singleton.2 rfl) b (by show s.v.ownBlock=_;rw [hv];rfl) ?_
  obtain ⟨i,hi⟩:=List.getElem?_of_mem hx
  obtain ⟨hlt,e⟩:=List.getElem?_eq_some_iff.1 hi
  exact ⟨i,hlt,by rw [nth_lt _ _ hlt,e];exact hon⟩
 have hinx:∀x∈s.l,Enc.inner x W:=by
  intro x hx
  obtain ⟨i,hi⟩:=List.getElem?_of_mem hx
  obtain ⟨hlt,e⟩:=List.getElem?_eq_some_iff.1 hi
  have:=hin i hlt
  rwa [nth_lt _ _ hlt,e] at this
 have hblk:b<W.heap.size:=(Array.getElem?_eq_some_iff.1 hb).1
 letI:Inhabited {x//x∈s.l} :=⟨⟨x0,hx0⟩⟩
 have hds:s.l.attach.toArray.size=s.l.length:=by simp
 have hdl:s.l.attach.toArray.toList.map Subtype.val=s.l:=by simp
 have hfl:=flat_encL (Subtype.val: {x//x∈s.l}→α) k hk h0 s.l.attach.toArray
 rw [hdl] at hfl
 have hnk:s.l.length*k≤cap*k:=Nat.mul_le_mul_right _ hle
 have hH:HoldsK (fun x: {x//x∈s.l} =>cellsOf x.1) k W b 0 s.l.attach.toArray:=by
  intro j hj
  have hj' :j<s.l.length*k:=by rw [size_flatK',hds] at hj;exact hj
  have hB:Blk W b E cur:=hb
  refine ⟨?_,hB.frozen _⟩
  rw [Nat.zero_add,hB.cell j]
  have e1:(encL s.l)[j]? =cur[j]? :=by
   rw [←htk,List.getElem?_take,if_pos (by rw [hk];exact hj'),Array.getElem?_toList]
  rw [←e1,←hfl,Array.getElem?_toList,Array.getElem?_eq_getElem hj,getElem!_pos _ j hj]
  rfl
 have hkeep:∀(m:Nat) (os:Array Obj) (dk:Array {x//x∈s.l}) (x: {x//x∈s.l}),Enc.inner x.1 (sortWorldK (fun x: {x//x∈s.l} =>cellsOf x.1) k W b 0 m dk os):=by
  intro m os dk x
  refine Enc.keep _ W _ (hinx _ x.2) fun c hcb=> ?_
  exact (sortWorld_chg _ k W b m dk os).same c (Enc.lt _ W (hinx _ x.2) c hcb) (fun e=>hself _ x.2 (e▸hcb))
 have hcon:=AnyQ.slices_SortFunc L6 k aE zE (fun x: {x//x∈s.l} =>cellsOf x.1) (fun x=>by rw [length_cellsOf,hk]) (fun x v hvx=>by
   obtain ⟨q,hq,rfl⟩:=List.mem_map.1 hvx
   exact One.one x.1 W (hinx _ x.2) q (by simpa using hq)) (fun x y=>cf x.1 y.1)
  ⟨fun x=>by simpa [ltOf] using hO1 x.1,fun x y z h1 h2=>by simp only [ltOf,decide_eq_true_eq] at*;exact hO2 _ _ _ h1 h2,fun x y z h1 h2=>by simp only [ltOf,decide_eq_false_iff_not] at*;exact hO3 _ _ _ h1 h2⟩
  g #[] b 0 cap s.l.attach.toArray W eg (fun m os dk _ x y=>by
   have h9:=hc x.1 x.2 y.1 y.2 _ (hkeep m os dk x) (hkeep m os dk y)
   rw [cellsOf_whole hag,cellsOf_whole hag] at h9
   refine Calls.mono h9 ?_
   rintro e w' ⟨he,hch⟩
   exact ⟨he,grown_of hch⟩) hH hblk (by rw [hds];omega)
 rw [hds] at hcon
 rw [hv]
 refine Calls.mono hcon ?_
 rintro e w' ⟨rfl,d',n,os,hp,hs,rfl⟩
 have hd' :d'.size=s.l.length:=by rw [hp.1,hds]
 have hperm:(d'.toList.map Subtype.val).Perm s.l:=by
  have h9:=hp.2.2
  have e1:(d'.extract 0 s.l.length).toList=d'.toList:=by rw [←hd'];simp
  have e2:(s.l.attach.toArray.extract 0 s.l.length).toList=s.l.attach:=by simp;exact List.take_of_length_le (by simp)
  rw [e1,e2] at h9
  have:=h9.map Subtype.val
  rwa [List.attach_map_subtype_val] at this
 have hl' :(d'.toList.map Subtype.val).length=s.l.length:=by simp [hd']
 refine ⟨_,rfl,rfl,d'.toList.map Subtype.val,hperm, ?_, ?_⟩
 ·rw [List.pairwise_map,List.pairwise_iff_getElem]
  intro i j hi hj hij
  have h9:=hs i j (Nat.zero_le _) hij (by rw [←hd'];simpa using hj)
  simp only [ltOf,decide_eq_false_iff_not] at h9
  rw [getElem!_pos d' j (by simpa using hj),getElem!_pos d' i (by simpa using hi)] at h9
  simpa using h9
 ·have hfl' :=flat_encL (Subtype.val: {x//x∈s.l}→α) k hk h0 d'
  have hfs:(flatK (fun x: {x//x∈s.l} =>cellsOf x.1) k d').size=s.l.length*k:=by rw [size_flatK',hd']
  refine hS.put (i:=0) rfl ((sortWorld_chg _ k W b n d' os).mono fun c hcb=>by show s.v.ownBlock=_;rw [hv,hcb];rfl) ⟨⟨?_, .inr ⟨b,cap,_, ?_,Nat.zero_le _,sortWorld_block _ k W b n d' os hb, ?_,hcm, ?_, ?_⟩⟩, ?_,fun i hi=> ?_⟩ (fun c hcb=> .inl (by show s.v.ownBlock=some c;rw [hv];exact hcb)) (fun c hcb=> ?_) (fun c hcb hrd=> ?_)
  ·rw [length_encL]
  ·show Value.slice _ s.l.length cap= .slice _ (d'.toList.map Subtype.val).length cap
   rw [hl']
  ·show (d'.toList.map Subtype.val).length≤cap
   rw [hl'];exact hle
  ·rw [size_putCells];exact hcs
  ·show List.take ((d'.toList.map Subtype.val).length*Enc.sz α) _=encL _
   rw [hl',hk,←hfs,putCells_list _ _ (by rw [hfs,hcs,hk];exact hnk)]
   exact hfl'
  ·show (d'.toList.map Subtype.val).length≤_
   rw [hl'];exact hl
  ·have hi' :i<d'.toList.length:=by simpa using hi
   show Enc.inner (nth (d'.toList.map Subtype.val) i) _
   rw [nth_lt _ _ hi,List.getElem_map]
   exact hkeep n os d' _
  ·obtain ⟨i,hi,hon⟩:=hcb
   have hm:nth (d'.toList.map Subtype.val) i∈s.l:=hperm.subset (nth_mem _ _ hi)
   obtain ⟨j,hj⟩:=List.getElem?_of_mem hm
   obtain ⟨hlt,e⟩:=List.getElem?_eq_some_iff.1 hj
   exact .inr (.inl ⟨j,hlt,by rw [nth_lt _ _ hlt,e];exact hon⟩)
  ·obtain ⟨i,hi,hon⟩:=hrd
   have hm:nth (d'.toList.map Subtype.val) i∈s.l:=hperm.subset (nth_mem _ _ hi)
   have hcb' :c=b:=by
    have:(Value.slice (some ⟨b,0,none⟩) s.l.length cap).ownBlock=some c:=hcb
    exact (Option.some.inj this).symm
   exact hself _ hm (hcb' ▸hon)
end
end Go.Proofs.YtmjkobhkkjgplaaGreatDoor
end
section
namespace Go.Proofs.YtmjkobhkkjgplaaGreatDoor
open Go.RowKit
set_option linter.unusedSimpArgs false
set_option linter.unusedVariables false
section
variable {P:Program} {o:Oper} {N:Nat} {K:Nat→Prop} {W w:World} {a:Act} {F:List (Nat×Value)} {L:List Asn} {α:Type} [Enc α]
theorem St.truncN (r:Nat) {E:TypeId} {s:Ls α} (h:St N K W a w F L) (hi:L[r]? =some (.own E s)) (j:Nat) (hj:j≤s.l.length) (h0:0<s.l.length):St N K W a w F (L.set r (.own E (⟨vtake s.v j,s.l.take j⟩:Ls α))):=by
 obtain ⟨⟨h1,h2⟩,h3,h4⟩:=h.sh.ok _ (List.mem_of_getElem? hi)
 have hse:=h.sh.self _ (List.mem_of_getElem? hi)
 have ht:(s.l.take j).length=j:=by rw [List.length_take];omega
 rcases h2 with ⟨_,hn⟩|⟨g,cap,cur,hv,hb,hg,hc,hm,hs,he⟩
 ·omega
 ·have hv2:vtake s.v j= .slice (some ⟨g,0,none⟩) j cap:=by rw [hv];rfl
  have hle:j*Enc.sz α≤s.l.length*Enc.sz α:=Nat.mul_le_mul_right _ hj
  have hnt:∀i,i<(s.l.take j).length→i<s.l.length∧nth (s.l.take j) i=nth s.l i:=fun i hi9=>by
   have h9:i<j:=by omega
   exact ⟨by omega,by rw [nth_lt _ _ hi9,nth_lt _ _ (show i<s.l.length by omega),List.getElem_take]⟩
  refine ⟨h.fr,h.sh.put hi (Chg.refl _ _) ⟨⟨?_, .inr ⟨g,cap,cur, ?_,hb,hg, ?_,hm,hs, ?_⟩⟩, ?_, ?_⟩ ?_ (fun b hb=> ?_) (fun b hb1 hb=> ?_)⟩
  ·show (encL (s.l.take j)).length=(s.l.take j).length*_
   rw [encL_take,List.length_take,h1,ht]
   omega
  ·show vtake s.v j= .slice _ (s.l.take j).length cap
   rw [hv2,ht]
  ·show (s.l.take j).length≤cap
   omega
  ·show cur.toList.take ((s.l.take j).length*_)=encL (s.l.take j)
   rw [ht,encL_take,←he,List.take_take,Nat.min_eq_left hle]
  ·show (s.l.take j).length≤_
   omega
  ·intro i hi
   rw [(hnt i hi).2]
   exact h4 i (hnt i hi).1
  ·intro b hb
   left
   have hb' :(vtake s.v j).ownBlock=some b:=hb
   rw [hv2] at hb'
   show s.v.ownBlock=some b
   rw [hv]
   exact hb'
  ·obtain ⟨i,hi,hb⟩:=hb
   rw [(hnt i hi).2] at hb
   exact .inr (.inl ⟨i,(hnt i hi).1,hb⟩)
  ·obtain ⟨i,hi,hb⟩:=hb
   rw [(hnt i hi).2] at hb
   refine hse b ?_ ⟨i,(hnt i hi).1,hb⟩
   have hb' :(vtake s.v j).ownBlock=some b:=hb1
   rw [hv2] at hb'
   show s.v.ownBlock=some b
   rw [hv]
   exact hb'
theorem r_slHv {T e:TypeId} {g:Bool} {n by_:Nat} {z:List Value} {x y:Operand} {v:Value} {j:Nat} (hT:slI P T=some e) (he:tyI P e=some (g,n,by_,z)) (ho:o.op= .slice T x none (some y) none) (hx:ev F x=some v) (hy:ev F y=some (.int .i64 (j:Int)))
  (hv:∃b m cap,v= .slice (some ⟨b,0,none⟩) m cap∧m≤cap∧j≤m∧0<m):Rn P o N K W F L (vtake v j):=fun a w h=>by
 obtain ⟨blk,m,cap,rfl,hle,hj,hpos⟩:=hv
 obtain ⟨i,d,zv,hi,hd,_,rfl,_⟩:=tyI_parts he
 have hu:=slI_parts hT
 have hel:P.elem T=e:=by simp [Program.elem,hu]
 have hu' :P.underlying T=some (.slice (P.elem T)):=by rw [hel];exact hu
 have hc0:¬cap=0:=by omega
 have e1:=run_sliceAt_slice (P:=P) w T (.slice (some ⟨blk,0,none⟩) m cap) none (some (.int .i64 (j:Int))) none hu'
 have e2:=run_slice_h (P:=P) w T (some ⟨blk,0,none⟩) m cap hu' .i64 (j:Int) (by omega) (by omega)
 rw [hel,run_sizeOf hi,Result.andThen_ok] at e2
 rw [e2] at e1
 unfold execOp
 simp only [ho,h.fr.ev hx,h.fr.ev hy,Option.map_some,Option.map_none,Sem.run_bind,e1,Result.andThen_ok,Sem.run_pure,sliced,vtake]
 simp [Addr.add_lit,hc0]
theorem own_form {E:TypeId} {s:Ls α} {w:World} (h:(Asn.own E s).ok w) (h0:0<s.l.length):∃b cap,s.v= .slice (some ⟨b,0,none⟩) s.l.length cap∧s.l.length≤cap:=by
 obtain ⟨⟨h1,h2⟩,h3,h4⟩:=h
 rcases h2 with ⟨_,hn⟩|⟨g,cap,cur,hv,hb,hg,hc,hm,hs,he⟩
 ·omega
 ·exact ⟨g,cap,hv,hc⟩
theorem vsub_take {v:Value} {b n cap sz i:Nat} (hv:v= .slice (some ⟨b,0,none⟩) n cap):vsub (vtake v i) sz i n=vdrop v sz i:=by subst hv;rfl
theorem padr_drop {v:Value} {b n cap sz lo q j:Nat} (hv:v= .slice (some ⟨b,0,none⟩) n cap) (hlo:lo<cap):padr (vdrop v sz lo) sz q j=padr v sz (lo+q) j:=by
 subst hv
 simp [padr,vdrop,vblk,voff,show¬cap=lo by omega,Addr.add_lit,Nat.add_mul]
theorem vcap_take {v:Value} {i:Nat} :vcap (vtake v i)=vcap v:=by cases v<;>rfl
theorem cells3 (x:OutL):cellsOf x= [.int .i64 x.st,x.words.v,x.prints.v]:=rfl
theorem encL_setO (x:OutL):∀(m:List OutL) (i:Nat),i<m.length→encL (m.set i x)=splice (encL m) (i*3) (cellsOf x)
 | [],_,h=>by simp at h
 |y::m,0,_=>by
  have hy:∀(z:OutL) (m:List OutL),encL (z::m)=cellsOf z++encL m:=fun z m=>by simp [encL]
  rw [List.set_cons_zero,hy,hy]
  simp [splice,cells3]
 |y::m,i+1,h=>by
  have hy:∀(z:OutL) (m:List OutL),encL (z::m)=cellsOf z++encL m:=fun z m=>by simp [encL]
  rw [List.set_cons_succ,hy,hy,encL_setO x m i (by simpa using h)]
  have e3:(i+1)*3=3+i*3:=by omega
  have hc:∀z:OutL,(cellsOf z).length=3:=fun z=>rfl
  simp only [splice,e3,List.take_append,List.drop_append,hc]
  rw [List.take_of_length_le (l:=cellsOf y) (by rw [hc];omega),List.drop_of_length_le (l:=cellsOf y) (by rw [hc];omega)]
  have e4:3+i*3-3=i*3:=by omega
  have e5:3+i*3+3-3=i*3+3:=by omega
  rw [e4,e5]
  simp
theorem x_stewO {T:TypeId} {gg:Bool} {by_:Nat} {z:List Value} {x y:Operand} {i j r:Nat} {E:TypeId} {s:Ls OutL} (h:St N K W a w F L) (hT:tyI P T=some (gg,3,by_,z)) (ho:o.op= .store T x y) (hd:o.dst=none)
  (hx:ev F x=some (.pointer (some (padr s.v 3 i 0)))) (hr:L[r]? =some (.own E s)) (hi:i<s.l.length) (hj:j<s.l.length) (hy:ev F y=some (.agg #[.int .i64 (nth s.l j).st,(nth s.l j).words.v,(nth s.l j).prints.v])):
  Ex P o a w (fun a' w' =>St N K W a' w' F (L.set r (.own E ⟨s.v,s.l.set i (nth s.l j)⟩))):=by
 obtain ⟨ti,e,zv,hti,he,_,hs,_⟩:=tyI_parts hT
 have hok:=h.sh.ok _ (List.mem_of_getElem? hr)
 have hse:=h.sh.self _ (List.mem_of_getElem? hr)
 obtain ⟨hown,hlen,hinn⟩:=hok
 rcases hown.2 with ⟨_,h0⟩|⟨g,cap,cur,hsv,hb0,hg,hn,hm,hcs,htk⟩
 ·omega
 have hsz:Enc.sz OutL=3:=rfl
 rw [hsz] at hcs htk
 have hp:padr s.v 3 i 0=⟨g,i*3,none⟩:=by rw [hsv];simp [padr,vblk,voff]
 have hB:Blk w g E cur:=hg
 have h4:i*3+3≤cur.size:=by rw [hcs];omega
 have hix:=hinn j hj
 obtain ⟨x',hx'⟩:∃x',x' =nth s.l j:=⟨_,rfl⟩
 rw [←hx'] at hy hix⊢
 have hrun:=run_storeCells_at P g (i*3) E (cellsOf x') 0 cur w hB (by rw [cells3];simp;omega) (fun u hu=>by
  rw [cells3] at hu
  simp only [List.mem_cons,List.not_mem_nil,or_false] at hu
  rcases hu with rfl|rfl|rfl
  ·rfl
  ·exact Ls.At.one (s:=x'.words) hix.1
  ·exact Ls.At.one (s:=x'.prints) hix.2)
 have hcl:cur.toList.length=cap*3:=by simpa using hcs
 have hcur:(splice cur.toList (i*3) (cellsOf x')).take (s.l.length*3)=encL (s.l.set i x'):=by
  rw [encL_setO x' s.l i hi,←htk]
  have hvl:(cellsOf x').length=3:=rfl
  simp only [splice,hvl]
  apply List.ext_getElem?
  intro k
  simp only [List.getElem?_take,List.getElem?_append,List.getElem?_drop,List.length_take,List.length_append,hvl,List.length_drop,hcl]
  have e6:min (i*3) (cap*3)=i*3:=by omega
  have e7:min (i*3) (min (s.l.length*3) (cap*3))=i*3:=by omega
  simp only [e6,e7]
  repeat' split
  all_goals first|rfl|(exfalso;omega)|(congr 1;omega)
 have hmem:∀q,q<(s.l.set i x').length→∃p,p<s.l.length∧nth (s.l.set i x') q=nth s.l p:=fun q hq=>by
  have hq' :q<s.l.length:=by simpa using hq
  rw [nth_set]
  split
  ·exact ⟨j,hj,hx'⟩
  ·exact ⟨q,hq',rfl⟩
 refine Ex.of_skip (w' :=w.setRow g (splice cur.toList (i*3) (cellsOf x')).toArray) ?_ ?_
 ·unfold execOp
  have hsz2:(Value.agg #[.int .i64 x'.st,x'.words.v,x'.prints.v]).cells.size=ti.size:=by simp [Value.cells,hs]
  have hce:(Value.agg #[.int .i64 x'.st,x'.words.v,x'.prints.v]).cells.toList=cellsOf x' :=by simp [Value.cells,cells3]
  simp only [ho,h.fr.ev hx,h.fr.ev hy,Instr.storeAt,Instr.sureAddr,storeVar,Sem.run_bind,Sem.run_pure,Result.andThen_ok,run_sizeOf hti]
  simp only [hsz2,ne_eq,not_true_eq_false,if_false,hce,Nat.add_zero,hp] at hrun⊢
  rw [hrun]
  simp [splice]
 ·rw [hd]
  have hfp:(Asn.own E s).fp g:=by show s.v.ownBlock=some g;rw [hsv];rfl
  have hch:Chg (fun b=>(Asn.own E s).fp b) w (w.setRow g (splice cur.toList (i*3) (cellsOf x')).toArray):=⟨rfl,rfl,rfl,by simp [World.setRow],fun b hb hne=>setRow_other w g b _ (fun e=>hne (by rw [e];exact hfp))⟩
  refine ⟨h.fr,h.sh.put hr hch ⟨⟨?_, .inr ⟨g,cap,_, ?_,hb0,setRow_heap w g _ _ E (0,0) hB,by simpa using hn,hm, ?_, ?_⟩⟩,by simpa using hlen,fun q hq=> ?_⟩ (fun b hb=> .inl hb) (fun b hb=> ?_) (fun b hb hb' => ?_)⟩
  ·rw [length_encL]
  ·show s.v=_
   rw [hsv,List.length_set]
  ·rw [hsz]
   have hvl:(cellsOf x').length=3:=rfl
   simp only [splice]
   rw [List.size_toArray,List.length_append,List.length_append,List.length_take,List.length_drop,hvl,hcl]
   omega
  ·rw [hsz,List.length_set]
   simpa using hcur
  ·obtain ⟨p,hp9,e9⟩:=hmem q hq
   rw [e9]
   refine Enc.keep _ w _ (hinn p hp9) fun b hb=>hch.same b (Enc.lt _ w (hinn p hp9) b hb) fun hf=>hse b hf ⟨p,hp9,hb⟩
  ·obtain ⟨q,hq,hb⟩:=hb
   obtain ⟨p,hp9,e9⟩:=hmem q hq
   rw [e9] at hb
   exact .inr (.inl ⟨p,hp9,hb⟩)
  ·obtain ⟨q,hq,hb2⟩:=hb'
   obtain ⟨p,hp9,e9⟩:=hmem q hq
   rw [e9] at hb2
   exact hse b hb ⟨p,hp9,hb2⟩
end
end Go.Proofs.YtmjkobhkkjgplaaGreatDoor
end
section
namespace Go.Proofs.YtmjkobhkkjgplaaGreatDoor
open Go.RowKit
set_option linter.unusedSimpArgs false
set_option linter.unusedVariables false
section
variable {α:Type} [Inhabited α]
def keepI (eq:α→α→Bool) (l:List α) (i:Nat):Bool:=decide (i=0)|| !eq (nth l i) (nth l (i-1))
def keepL (eq:α→α→Bool) (l:List α) (m:Nat):List α:=((List.range m).filter (keepI eq l)).map (nth l)
theorem keepL_yes {eq:α→α→Bool} {l:List α} {m:Nat} (h:keepI eq l m=true):keepL eq l (m+1)=keepL eq l m++ [nth l m]:=by
 unfold keepL;rw [List.range_succ,List.filter_append,List.map_append];simp [h]
theorem keepL_no {eq:α→α→Bool} {l:List α} {m:Nat} (h:keepI eq l m=false):keepL eq l (m+1)=keepL eq l m:=by
 unfold keepL;rw [List.range_succ,List.filter_append,List.map_append];simp [h]
theorem keepL_le (eq:α→α→Bool) (l:List α) (m:Nat):(keepL eq l m).length≤m:=by
 unfold keepL;rw [List.length_map];exact Nat.le_trans (List.length_filter_le _ _) (by simp)
theorem keepL_all {eq:α→α→Bool} {l:List α} {m:Nat} (hm:m≤l.length) (h:∀i,0<i→i<m→eq (nth l i) (nth l (i-1))=false):keepL eq l m=l.take m:=by
 induction m with
 |zero=>simp [keepL]
 |succ m ih=>
  have hk:keepI eq l m=true:=by
   unfold keepI
   rcases Nat.eq_zero_or_pos m with rfl|h0
   ·rfl
   ·rw [h m h0 (Nat.lt_succ_self m)];simp
  rw [keepL_yes hk,ih (by omega) (fun i h1 h2=>h i h1 (by omega)),take_succ_nth _ _ (by omega)]
end
theorem keep_sorted {l:List Outc} {eq:Outc→Outc→Bool} (he:∀a b,eq a b=true↔a=b) (hs:l.Pairwise fun a b=>aheadB b a=false):Sorted_ (keepL eq l l.length)∧∀o,o∈keepL eq l l.length↔o∈l:=by
 have key:∀m,m≤l.length→Sorted_ (keepL eq l m)∧(∀o,o∈keepL eq l m↔o∈l.take m):=by
  intro m
  induction m with
  |zero=>intro _;exact ⟨List.Pairwise.nil,fun o=>by simp [keepL]⟩
  |succ m ih=>
   intro hm
   obtain ⟨h1,h2⟩:=ih (by omega)
   have hlt:m<l.length:=by omega
   have hle:∀o∈l.take m,aheadB (nth l m) o=false:=by
    intro o ho
    obtain ⟨i,hi⟩:=List.getElem?_of_mem ho
    obtain ⟨hi1,e⟩:=List.getElem?_eq_some_iff.1 hi
    have hi2:i<m:=by simp at hi1;omega
    have h9:=List.pairwise_iff_getElem.1 hs i m (by omega) hlt hi2
    rw [nth_lt _ _ hlt,←e,List.getElem_take]
    exact h9
   cases hk:keepI eq l m with
   |true=>
    rw [keepL_yes hk,take_succ_nth _ _ hlt]
    refine ⟨?_,fun o=>by rw [List.mem_append,List.mem_append,h2 o]⟩
    refine List.pairwise_append.2 ⟨h1,List.pairwise_singleton _ _,fun a ha b hb=> ?_⟩
    obtain rfl:b=nth l m:=by simpa using hb
    have ha' :=(h2 a).1 ha
    have h3:=hle a ha'
    cases h4:aheadB a (nth l m) with
    |true=>rfl
    |false=>
     exfalso
     have e:=aheadB_tri h4 h3
     obtain ⟨i,hi⟩:=List.getElem?_of_mem ha'
     obtain ⟨hi1,e1⟩:=List.getElem?_eq_some_iff.1 hi
     have hi2:i<m:=by simp at hi1;omega
     have hm0:0<m:=by omega
     have e2:l[i]'(by omega)=l[m]:=by
      have:(l.take m)[i]=l[i]'(by omega):=List.getElem_take
      rw [←this,e1,e,nth_lt _ _ hlt]
     have e3:nth l (m-1)=nth l m:=by
      rw [nth_lt _ _ (show m-1<l.length by omega),nth_lt _ _ hlt]
      rcases Nat.lt_or_ge i (m-1) with h5|h5
      ·have q1:=List.pairwise_iff_getElem.1 hs i (m-1) (by omega) (by omega) h5
       have q2:=List.pairwise_iff_getElem.1 hs (m-1) m (by omega) hlt (by omega)
       rw [e2] at q1
       exact aheadB_tri q1 q2
      ·have:i=m-1:=by omega
       subst this
       exact e2
     unfold keepI at hk
     rw [decide_eq_false (by omega),Bool.false_or,e3] at hk
     have:=(he (nth l m) (nth l m)).2 rfl
     rw [this] at hk
     cases hk
   |false=>
    rw [keepL_no hk,take_succ_nth _ _ hlt]
    refine ⟨h1,fun o=> ?_⟩
    rw [h2 o,List.mem_append,List.mem_singleton]
    refine ⟨.inl,fun ho=>ho.elim id fun e=> ?_⟩
    unfold keepI at hk
    have hm0:0<m:=by
     rcases Nat.eq_zero_or_pos m with rfl|h0
     ·rw [decide_eq_true rfl,Bool.true_or] at hk;cases hk
     ·exact h0
    rw [decide_eq_false (by omega),Bool.false_or] at hk
    have e4:nth l m=nth l (m-1):=(he _ _).1 (by simpa using hk)
    rw [e,e4,nth_lt _ _ (show m-1<l.length by omega)]
    exact List.mem_of_getElem? (i:=m-1) (by rw [List.getElem?_take,if_pos (by omega),List.getElem?_eq_getElem])
 obtain ⟨h1,h2⟩:=key l.length (Nat.le_refl _)
 exact ⟨h1,fun o=>by rw [h2 o,List.take_length]⟩
end Go.Proofs.YtmjkobhkkjgplaaGreatDoor
end
section
namespace Go.Proofs.YtmjkobhkkjgplaaGreatDoor
open Go.Shelf
def sortOut_ren :Go.Shelf.Ren:=⟨fun|6=>103|15=>94|14=>144|28=>138|29=>139|20=>155|21=>156|22=>157|23=>158|24=>159|25=>160|26=>161|27=>162|46=>168|47=>149|48=>150|49=>169|50=>170|57=>175|n=>n,fun|22=>35|24=>39|25=>145|3=>3|39=>143|0=>0|53=>200|55=>202|4=>4|46=>193|45=>192|50=>197|5=>5|9=>9|66=>216|70=>220|76=>234|77=>235|n=>n,fun|n=>n⟩
theorem sortOut :Go.Proofs.SlLaysF0.n6 Tryz.prog sortOut_ren:= {
 mixed:=by kernel_rfl
 f6:=⟨Tryz.f103.name,by decide,Tryz.func103.trans (congrArg some (by kernel_rfl))⟩
 f14:=⟨Tryz.f144.name,by decide,Tryz.func144.trans (congrArg some (by kernel_rfl))⟩
 f15:=Tryz.func94.trans (congrArg some (by kernel_rfl))
 f20:=⟨Tryz.f155.name,by decide,Tryz.func155.trans (congrArg some (by kernel_rfl))⟩
 f21:=⟨Tryz.f156.name,by decide,Tryz.func156.trans (congrArg some (by kernel_rfl))⟩
 f22:=⟨Tryz.f157.name,by decide,Tryz.func157.trans (congrArg some (by kernel_rfl))⟩
 f23:=⟨Tryz.f158.name,by decide,Tryz.func158.trans (congrArg some (by kernel_rfl))⟩
 f24:=⟨Tryz.f159.name,by decide,Tryz.func159.trans (congrArg some (by kernel_rfl))⟩
 f25:=⟨Tryz.f160.name,by decide,Tryz.func160.trans (congrArg some (by kernel_rfl))⟩
 f26:=⟨Tryz.f161.name,by decide,Tryz.func161.trans (congrArg some (by kernel_rfl))⟩
 f27:=⟨Tryz.f162.name,by decide,Tryz.func162.trans (congrArg some (by kernel_rfl))⟩
 f28:=Tryz.func138.trans (congrArg some (by kernel_rfl))
 f29:=Tryz.func139.trans (congrArg some (by kernel_rfl))
 f46:=⟨Tryz.f168.name,by decide,Tryz.func168.trans (congrArg some (by kernel_rfl))⟩
 f47:=Tryz.func149.trans (congrArg some (by kernel_rfl))
 f48:=Tryz.func150.trans (congrArg some (by kernel_rfl))
 f49:=⟨Tryz.f169.name,by decide,Tryz.func169.trans (congrArg some (by kernel_rfl))⟩
 f50:=⟨Tryz.f170.name,by decide,Tryz.func170.trans (congrArg some (by kernel_rfl))⟩
 f57:=⟨Tryz.f175.name,by decide,Tryz.func175.trans (congrArg some (by kernel_rfl))⟩
 t0:=Tryz.underlying0
 a0:=Tryz.isAgg0
 z0:=Tryz.sizeOf0
 v0:=Tryz.zeroValue0
 t3:=Tryz.underlying3
 a3:=Tryz.isAgg3
 z3:=Tryz.sizeOf3
 v3:=Tryz.zeroValue3
 t4:=Tryz.underlying4
 a4:=Tryz.isAgg4
 z4:=Tryz.sizeOf4
 v4:=Tryz.zeroValue4
 t5:=Tryz.underlying5
 a5:=Tryz.isAgg5
 z5:=Tryz.sizeOf5
 v5:=Tryz.zeroValue5
 t9:=Tryz.underlying9
 a9:=Tryz.isAgg9
 z9:=Tryz.sizeOf9
 v9:=Tryz.zeroValue9
 t22:=Tryz.underlying35
 a22:=Tryz.isAgg35
 z22:=Tryz.sizeOf35
 v22:=Tryz.zeroValue35
 t25:=Tryz.underlying145
 a25:=Tryz.isAgg145
 z25:=Tryz.sizeOf145
 v25:=Tryz.zeroValue145
 t39:=Tryz.underlying143
 a39:=Tryz.isAgg143
 z39:=Tryz.sizeOf143
 v39:=Tryz.zeroValue143
 t45:=Tryz.underlying192
 a45:=Tryz.isAgg192
 z45:=Tryz.sizeOf192
 v45:=Tryz.zeroValue192
 t46:=Tryz.underlying193
 a46:=Tryz.isAgg193
 z46:=Tryz.sizeOf193
 v46:=Tryz.zeroValue193
 t50:=Tryz.underlying197
 a50:=Tryz.isAgg197
 z50:=Tryz.sizeOf197
 v50:=Tryz.zeroValue197
 t53:=Tryz.underlying200
 a53:=Tryz.isAgg200
 z53:=Tryz.sizeOf200
 v53:=Tryz.zeroValue200
 t55:=Tryz.underlying202
 a55:=Tryz.isAgg202
 z55:=Tryz.sizeOf202
 v55:=Tryz.zeroValue202
 t66:=Tryz.underlying216
 a66:=Tryz.isAgg216
 z66:=Tryz.sizeOf216
 v66:=Tryz.zeroValue216
 t70:=Tryz.underlying220
 a70:=Tryz.isAgg220
 z70:=Tryz.sizeOf220
 v70:=Tryz.zeroValue220
 t76:=Tryz.underlying234
 a76:=Tryz.isAgg234
 z76:=Tryz.sizeOf234
 v76:=Tryz.zeroValue234
 t77:=Tryz.underlying235
 a77:=Tryz.isAgg235
 z77:=Tryz.sizeOf235
 v77:=Tryz.zeroValue235 }
end Go.Proofs.YtmjkobhkkjgplaaGreatDoor
end
namespace Go.Proofs.YtmjkobhkkjgplaaGreatDoor
open Go.RowKit
set_option linter.unusedSimpArgs false
set_option linter.unusedVariables false
set_option maxRecDepth 100000
set_option maxHeartbeats 4000000
theorem cmpI_lt (a b:Int):Dr.cmpI a b<0↔a<b:=by unfold Dr.cmpI;split<;>(try split)<;>omega
theorem cmpI_eq (a b:Int):Dr.cmpI a b=0↔a=b:=by unfold Dr.cmpI;split<;>(try split)<;>omega
theorem cmpL_eq :∀(l m:List Int),Dr.cmpL l m=0↔l=m
 | [], []=>by simp [Dr.cmpL]
 | [],_::_=>by simp [Dr.cmpL]
 |_::_, []=>by simp [Dr.cmpL]
 |a::l,b::m=>by
  unfold Dr.cmpL
  by_cases h:Dr.cmpI a b=0
  ·rw [if_neg (by simpa using h),cmpL_eq l m,(cmpI_eq a b).1 h];simp
  ·rw [if_pos h]
   constructor
   ·intro h2;exact absurd h2 h
   ·intro h2;exact absurd ((cmpI_eq a b).2 (List.cons.inj h2).1) h
theorem cmpL_lt :∀(l m:List Int),Dr.cmpL l m<0↔lessB l m=true
 | [], []=>by simp [Dr.cmpL,lessB]
 | [],_::_=>by simp [Dr.cmpL,lessB]
 |_::_, []=>by simp [Dr.cmpL,lessB]
 |a::l,b::m=>by
  unfold Dr.cmpL lessB
  by_cases h:a=b
  ·rw [if_neg (by simpa using (cmpI_eq a b).2 h),if_pos h,cmpL_lt l m]
  ·rw [if_pos (fun h2=>h ((cmpI_eq a b).1 h2)),if_neg h,cmpI_lt];simp
theorem ordO_eq (a b:OutL):Dr.ordO a b=0↔a.out=b.out:=by
 unfold Dr.ordO OutL.out
 have h1:=cmpI_eq a.st b.st
 have h2:=cmpL_eq a.words.l b.words.l
 have h3:=cmpL_eq a.prints.l b.prints.l
 simp only [Dr.orL,Outc.mk.injEq]
 by_cases e1:Dr.cmpI a.st b.st=0
 ·rw [if_neg (by simpa using e1)]
  by_cases e2:Dr.cmpL a.words.l b.words.l=0
  ·rw [if_neg (by simpa using e2)]
   by_cases e3:Dr.cmpL a.prints.l b.prints.l=0
   ·rw [if_neg (by simpa using e3)];exact ⟨fun _=>⟨h1.1 e1,h2.1 e2,h3.1 e3⟩,fun _=>rfl⟩
   ·rw [if_pos e3];exact ⟨fun h=>absurd h e3,fun h=>absurd (h3.2 h.2.2) e3⟩
  ·rw [if_pos e2];exact ⟨fun h=>absurd h e2,fun h=>absurd (h2.2 h.2.1) e2⟩
 ·rw [if_pos e1];exact ⟨fun h=>absurd h e1,fun h=>absurd (h1.2 h.1) e1⟩
theorem ordO_lt (a b:OutL):Dr.ordO a b<0↔aheadB a.out b.out=true:=by
 unfold Dr.ordO aheadB
 have h1:=cmpI_eq a.st b.st
 have h2:=cmpL_eq a.words.l b.words.l
 show _↔(if a.st=b.st then (if a.words.l=b.words.l then lessB a.prints.l b.prints.l else lessB a.words.l b.words.l) else decide (a.st<b.st))=true
 simp only [Dr.orL]
 by_cases e1:Dr.cmpI a.st b.st=0
 ·rw [if_neg (by simpa using e1),if_pos (h1.1 e1)]
  by_cases e2:Dr.cmpL a.words.l b.words.l=0
  ·rw [if_neg (by simpa using e2),if_pos (h2.1 e2),←cmpL_lt]
   by_cases e3:Dr.cmpL a.prints.l b.prints.l=0
   ·rw [if_neg (by simpa using e3),e3]
   ·rw [if_pos e3]
  ·rw [if_pos e2,if_neg (fun h=>e2 (h2.2 h)),cmpL_lt]
 ·rw [if_pos e1,if_neg (fun h=>e1 (h1.2 h)),cmpI_lt];simp
def eqO (a b:OutL):Bool:=decide (a.out=b.out)
theorem order_p (o1 o2:OutL) (W:World) (ha:Enc.inner o1 W) (hb:Enc.inner o2 W):
  Rets Tryz.prog 98 [Enc.whole o1,Enc.whole o2] W (fun v w' =>v= .int .i64 (Dr.ordO o1 o2)∧Sh0 W w' []):=by
 refine Rets.mono (Dr.order_c o1 o2 W ha hb) ?_
 rintro v w' ⟨rfl,hs⟩
 have hc:=hs.chg
 exact ⟨rfl,⟨⟨hc.os,hc.tape,hc.output,hc.size,hc.same⟩,fun A hA=>(by cases hA),fun A hA=>(by cases hA),fun A hA=>(by cases hA), .nil⟩⟩
theorem sortOut_c (K:Nat→Prop) (s:Ls OutL) (W:World) (hS:Sh K W W [.own 39 s]):
  Rets Tryz.prog 103 [s.v, .func (.func 98) #[] #[]] W (fun v w' =>v= .tuple #[]∧∃l' :List OutL,l'.Perm s.l∧(l'.map OutL.out).Pairwise (fun a b=>aheadB b a=false)∧Sh K W w' [.own 39 (⟨s.v,l'⟩:Ls OutL)]):=by
 have eg:∀args w,(callFunc 98 args).run Tryz.prog w= .ok (.enter 98 args) w:=enters_of Tryz.func98 (by kernel_rfl) rfl
 have hc:=sort_c (P:=Tryz.prog) (ρ:=sortOut_ren) sortOut (k:=3) Tryz.isAgg39 Tryz.sizeOf39 rfl rfl (by decide) Dr.ordO (fun x h=>by rw [ordO_lt,aheadB_irr] at h;cases h) (fun x y z h1 h2=>by rw [ordO_lt] at*;exact aheadB_trans h1 h2)
  (fun x y z h1 h2 h3=>by
   rw [ordO_lt] at*
   cases e1:aheadB z.out y.out with
   |true=>have h4:=aheadB_trans h3 e1;exact h1 h4
   |false=>
    have h5:aheadB y.out z.out=false:=by simpa using h2
    have h6:=aheadB_tri h5 e1
    rw [←h6] at h3
    exact h1 h3) 98 eg hS
  (fun x _ y _ W' hx hy=>by
   refine Calls.mono (Dr.order_c x y W' hx hy) ?_
   rintro e w' ⟨v,he,hv,hs⟩
   exact ⟨by rw [he,hv],hs.chg⟩)
 refine Rets.mono hc ?_
 rintro v w' ⟨rfl,l',hp,hs,hsh⟩
 refine ⟨rfl,l',hp, ?_,hsh⟩
 rw [List.pairwise_map]
 refine hs.imp ?_
 intro a b h
 cases h2:aheadB b.out a.out with
 |false=>rfl
 |true=>exact absurd ((ordO_lt b a).2 h2) h
theorem keep_start {l:List OutL} {i:Nat} (hi:0<i∧i<l.length) (ha:∀j,0<j→j<i→eqO (nth l j) (nth l (j-1))=false) (he:eqO (nth l i) (nth l (i-1))=true):l.take i=keepL eqO l (i+1):=by
 rw [keepL_no (by unfold keepI;rw [he];simp;omega),keepL_all (by omega) ha]
theorem keep_yes {l m:List OutL} {p q:Nat} (hm:m.take p=keepL eqO l q) (hp:p<m.length) (h0:0<q) (he:eqO (nth l q) (nth l (q-1))=false):(m.set p (nth l q)).take (p+1)=keepL eqO l (q+1):=by
 rw [keepL_yes (by unfold keepI;rw [he];simp),←hm,take_succ_nth _ _ (by simpa using hp)]
 congr 1
 ·rw [List.take_set_of_le (by omega)]
 ·rw [nth_set,if_pos ⟨rfl,hp⟩]
theorem keep_no {l:List OutL} {k:List OutL} {q:Nat} (hm:k=keepL eqO l q) (h0:0<q) (he:eqO (nth l q) (nth l (q-1))=true):k=keepL eqO l (q+1):=by
 rw [keepL_no (by unfold keepI;rw [he];simp;omega),hm]
theorem same_c (o1 o2:OutL) (W:World) (ha:Enc.inner o1 W) (hb:Enc.inner o2 W):
    Rets Tryz.prog 105 [.agg #[.int .i64 o1.st,o1.words.v,o1.prints.v], .agg #[.int .i64 o2.st,o2.words.v,o2.prints.v]] W (fun v w' =>v= .bool (eqO o1 o2)∧Sh0 W w' []):=by
 refine gen Tryz.func105 Tryz.ntmps105 (Sh0.ext (by intro A hA;simp only [List.mem_cons,List.not_mem_nil,or_false] at hA;rcases hA with rfl|rfl|rfl|rfl;exact ha.1;exact ha.2;exact hb.1;exact hb.2) (by intro A hA b hb9;simp only [List.mem_cons,List.not_mem_nil,or_false] at hA;rcases hA with rfl|rfl|rfl|rfl<;>exact hb9):Sh (fun _=>False) W W [.at_ o1.words, .at_ o1.prints, .at_ o2.words, .at_ o2.prints]) rfl fun a10 h10=>gG h10<|sK fun _ k11=>gbx rfl rfl fun b12=>gbx rfl rfl fun b13=>gRn (oM 1 rfl<|.nl)<|nK k11<|sK fun _ k14=>gRn (olw 1 ti_39 rfl rfl<|olw 0 ti_39 rfl rfl<|.nl)<|gP (fun _ _ h_=>xCl h_ bd_98 rfl (order_p o1 o2 _ ⟨h_.sh.at 2 rfl,h_.sh.at 3 rfl⟩ ⟨h_.sh.at 4 rfl,h_.sh.at 5 rfl⟩)) rfl<|gRn (oeqI _ _ rfl<|oM 1 rfl<|.nl)<|nK k14<|gR<|fun a16 w16 h16=> ?_;clear h10
 try simp only [Exit.then,Exit.inBlock]
 refine x_ret1 (fn:=Tryz.f105) (t:=4) rfl h16 rfl<|⟨?_,(h16.sh.sel [] rfl)⟩
 congr 1
 unfold eqO
 exact decide_eq_decide.2 (ordO_eq o1 o2)
theorem snocE {l:List OutL} {i:Nat} (h:∀j,0<j→j<i→eqO (nth l j) (nth l (j-1))=false) (h2:eqO (nth l i) (nth l (i-1))=false):∀j,0<j→j<i+1→eqO (nth l j) (nth l (j-1))=false:=fun j h3 h4=>by
 rcases Nat.lt_or_ge j i with h5|h5
 ·exact h j h3 h5
 ·obtain rfl:j=i:=by omega
  exact h2
theorem compact_c (K:Nat→Prop) (s:Ls OutL) (W:World) (hS:Sh K W W [.own 39 s]) (hn:s.l.length≤1000000000):
    Rets Tryz.prog 104 [s.v, .func (.func 105) #[] #[]] W (fun v w' =>∃u:Ls OutL,v=u.v∧u.l=keepL eqO s.l s.l.length∧Sh K W w' [.own 39 u]):=by
 refine gen Tryz.func104 Tryz.ntmps104 hS rfl fun a10 h10=>gG h10<|sG (oM 1 rfl<|.nl)<|gK fun _ k12=>sK fun _ k13=>gNl (aO 0 rfl) fun hl14=>gRn (oM 1 rfl<|oln sl_35 (aO 0 rfl) rfl<|oltN _ 2 rfl<|.nl)<|nK k13<|?_;clear h10
 refine gcd rfl (fun hb15 hp15=> ?_) fun hb15 hp15=> ?_
 ·skip
  refine sG (oM 2 rfl<|.nl)<|gR<|fun a17 w17 h17=> ?_
  try simp only [Exit.then,Exit.inBlock]
  refine x_ret1 (fn:=Tryz.f104) (t:=4) rfl h17 rfl ?_
  first|exact ⟨s,rfl,(by rw [keepL_all (Nat.le_refl _) (fun j h1 h2=>by omega),List.take_length]),h17.sh⟩|exact ⟨s,rfl,(by rw [keepL_all (Nat.le_refl _) (fun j h1 h2=>hall j h1 (by omega)),List.take_length]),h17.sh⟩
 refine gS<|hK k12<|?_
 obtain ⟨gb,cap,hsv,hcap⟩:=own_form (hS.ok _ (List.mem_cons_self ..)) (show 0<s.l.length by omega)
 refine gK fun _ k18=>sG (oM 1 rfl<|.nl)<|gB<|fun a21 w21 h21=>x_loop (fun m a w=>∃(i:Nat),(1≤i∧i≤s.l.length)∧(∀j,0<j→j<i→eqO (nth s.l j) (nth s.l (j-1))=false)∧St 66 K W a w [(0,s.v),(1, .func (.func 105) #[] #[]),(5, .int .i64 ((i:Nat):Int))] [.own 39 s]∧m=s.l.length-i) ⟨_,1,(by omega),(fun j h1 h2=>absurd h2 (by omega)),h21.nf ⟨rfl,rfl,rfl,trivial⟩,rfl⟩ ?_
 clear h21
 rintro m20 a20 w20 ⟨i,hi,hall,h20,hm20⟩
 refine gG h20<|gK fun _ k22=>sG (oM 2 rfl<|oln sl_35 (aO 0 rfl) rfl<|oltN _ _ rfl<|.nl)<|?_;clear h20
 refine gcd rfl (fun hb24 hp24=> ?_) fun hb24 hp24=> ?_
 ·skip
  refine gS<|hK k22<|gK fun _ k25=>gB<|gK fun _ k26=>rT 10 [] (by kernel_rfl) (by kernel_rfl) (oM 3 rfl<|oxN sl_35 ti_39 (aO 0 rfl) _ om9 rfl<|olw2 [.int .i64 ((nth s.l i).st),((nth s.l i).words).v,((nth s.l i).prints).v] ti_39 (aO 0 rfl) om9 rfl<|oM 2 rfl<|osbN _ 1 om9 rfl<|oxN sl_35 ti_39 (aO 0 rfl) _ om9 rfl<|olw2 [.int .i64 ((nth s.l (i-1)).st),((nth s.l (i-1)).words).v,((nth s.l (i-1)).prints).v] ti_39 (aO 0 rfl) om9 rfl<|.nl)<|gP (fun _ _ h_=>xCl h_ bd_105 rfl (same_c (nth s.l i) (nth s.l (i-1)) _ ((h_.sh.own 0 rfl).inner i (show i<s.l.length from (by omega))) ((h_.sh.own 0 rfl).inner (i-1) (show (i-1)<s.l.length from (by omega))))) rfl<|nK k26<|gCb rfl (fun hb28=> ?_) fun hb28=> ?_
  ·skip
   refine sG (oM 2 rfl<|oV (r_slL (s:=s) (k:=i) sl_35 ti_39 rfl rfl rfl (fun w h=>(h.own 0 rfl)) (show i≤s.l.length from om9)) rfl<|oM 1 rfl<|.nl)<|gK fun _ k30=>sG (oM 1 rfl<|.nl)<|gB<|fun a33 w33 h33=>x_loop (fun m a w=>∃(p k:Nat) (l:List OutL),(1≤k∧i+k≤s.l.length)∧(1≤p∧p+1≤i+k)∧(l.length=s.l.length)∧(l.take p=keepL eqO s.l (i+k))∧(∀j,i+k≤j+1→j<s.l.length→nth l j=nth s.l j)∧St 66 K W a w [(0,s.v),(1, .func (.func 105) #[] #[]),(5, .int .i64 ((p:Nat):Int)),(6,(vdrop s.v 3 i)),(7, .int .i64 ((k:Nat):Int))] [.own 39 (⟨s.v,l⟩:Ls OutL)]∧m=s.l.length-i-k) ⟨_,i,1,s.l,(by omega),(by omega),(rfl),(keep_start (by omega) hall (by assumption)),(fun j _ _=>rfl),h33.nf ⟨rfl,rfl,rfl,rfl,rfl,trivial⟩,rfl⟩ ?_
   clear h33
   rintro m32 a32 w32 ⟨p,k,l,hk,hp,hll,hkp,hsm,h32,hm32⟩
   refine gG h32<|gK fun _ k34=>sK fun _ k35=>gRn (oM 2 rfl<|.nl)<|fun a37 w37 h37=>wv h37 (r_len (s:=(⟨(vdrop s.v 3 i),l.drop i⟩:Ls OutL)) (n:=l.length-i) sl_35 rfl rfl (fun w h=>(drop_at (h.own 0 rfl) (show i≤l.length from (by omega)))) List.length_drop) rfl rfl fun a36 h36=>gG h36<|gRn (oltN _ _ rfl<|.nl)<|nK k35<|?_;clear h32 h37 h36
   refine gcd rfl (fun hb38 hp38=> ?_) fun hb38 hp38=> ?_
   ·skip
    refine gS<|hK k34<|gK fun _ k39=>gB<|gK fun _ k40=>fun a41 w41 h41=>x_tail 10 [] (by kernel_rfl) (by kernel_rfl) h41 fun _ z42=>qQ h41.fr<|qRn (oM 3 rfl<|oV (Rn.same (v' := .pointer (some (padr s.v 3 (i+k) 0))) (r_ixN (s:=(⟨(vdrop s.v 3 i),l.drop i⟩:Ls OutL)) (q:=k) sl_35 ti_39 rfl rfl rfl (fun w h=>(drop_at (h.own 0 rfl) (show i≤l.length from om9))) (by rw [List.length_drop];exact (show k<l.length-i from om9))) (by rw [padr_drop hsv (by omega)])) rfl<|olw2 [.int .i64 ((nth l (i+k)).st),((nth l (i+k)).words).v,((nth l (i+k)).prints).v] ti_39 (aO 0 rfl) om9 rfl<|oM 2 rfl<|osbN _ 1 om9 rfl<|oV (Rn.same (v' := .pointer (some (padr s.v 3 (i+(k-1)) 0))) (r_ixN (s:=(⟨(vdrop s.v 3 i),l.drop i⟩:Ls OutL)) (q:=k-1) sl_35 ti_39 rfl rfl rfl (fun w h=>(drop_at (h.own 0 rfl) (show i≤l.length from om9))) (by rw [List.length_drop];exact (show k-1<l.length-i from om9))) (by rw [padr_drop hsv (by omega)])) rfl<|olw2 [.int .i64 ((nth l (i+(k-1))).st),((nth l (i+(k-1))).words).v,((nth l (i+(k-1))).prints).v] ti_39 (aO 0 rfl) om9 rfl<|.nl)<|qN z42<|gP (fun _ _ h_=>xCl h_ bd_105 rfl (same_c (nth l (i+k)) (nth l (i+(k-1))) _ ((h_.sh.own 0 rfl).inner (i+k) (show (i+k)<l.length from (by omega))) ((h_.sh.own 0 rfl).inner (i+(k-1)) (show (i+(k-1))<l.length from (by omega))))) rfl<|gRn (ont rfl<|.nl)<|nK k40<|?_;clear h41
    refine gCb rfl (fun hb44=> ?_) fun hb44=> ?_
    ·have hn44:eqO (nth l (i+k)) (nth l (i+(k-1)))=false:=(Bool.not_eq_true' _).mp hb44
     have he1:=hsm (i+k) (by omega) (by omega);have he2:=hsm (i+(k-1)) (by omega) (by omega);rw [show i+(k-1)=i+k-1 by omega] at he2
     have hkpY:=keep_yes hkp (by omega) (show 0<i+k by omega) (by have h9:=hn44;rw [he1,show i+(k-1)=i+k-1 by omega,he2] at h9;first|exact h9|simpa using h9)
     rw [←he1] at hkpY
     refine sK fun _ k45=>gRn (oM 4 rfl<|.nl)<|fun a47 w47 h47=>wv h47 (Rn.same (v' := .pointer (some (padr s.v 3 (i+k) 0))) (r_ixN (s:=(⟨(vdrop s.v 3 i),l.drop i⟩:Ls OutL)) (q:=k) sl_35 ti_39 rfl rfl rfl (fun w h=>(drop_at (h.own 0 rfl) (show i≤l.length from (by omega)))) (by rw [List.length_drop];exact (show k<l.length-i from (by omega)))) (by rw [padr_drop hsv (by omega)])) rfl rfl fun a46 h46=>gG h46<|gNl (aO 0 rfl) fun (hl48:l.length≤140737488355328)=>gRn (olw2 [.int .i64 ((nth l (i+k)).st),((nth l (i+k)).words).v,((nth l (i+k)).prints).v] ti_39 (aO 0 rfl) om9 rfl<|oxN sl_35 ti_39 (aO 0 rfl) _ om9 rfl<|.nl)<|gE (fun _ _ h_=>x_stewO (r:=0) (i:=p) (j:=(i+k)) (s:=(⟨s.v,l⟩:Ls OutL)) h_ ti_39 rfl rfl rfl rfl (show p<l.length from om9) (show (i+k)<l.length from om9) rfl) rfl<|nK k45<|gF [0,1,5,6,7] rfl<|gL<|gRn (oM 1 rfl<|oadN _ 1 om9 rfl<|oM 1 rfl<|.nl)<|nK k39<|gL<|gRn (oM 1 rfl<|oadN _ 1 om9 rfl<|oM 1 rfl<|.nl)<|nN<|fun a50 w50 h50=>x_again ⟨_, ?_,p+1,(k+1),l.set p (nth l (i+k)), ?_, ?_, ?_, ?_, ?_,h50.nf ⟨rfl,rfl,rfl,rfl,rfl,trivial⟩,rfl⟩;clear h47 h46
     · rw [hm32];first|omega|(simp only [lens9];omega)
     · omega
     · omega
     · simpa using hll
     · first|exact hkpY|exact hkpN
     · intro j h1 h2;first|exact hsm j (by omega) h2|(rw [nth_set,if_neg (by omega)];exact hsm j (by omega) h2)
    have hn44:eqO (nth l (i+k)) (nth l (i+(k-1)))=true:=(Bool.not_eq_false' _).mp hb44
    have he1:=hsm (i+k) (by omega) (by omega);have he2:=hsm (i+(k-1)) (by omega) (by omega);rw [show i+(k-1)=i+k-1 by omega] at he2
    have hkpN:=keep_no hkp (show 0<i+k by omega) (by have h9:=hn44;rw [he1,show i+(k-1)=i+k-1 by omega,he2] at h9;first|exact h9|simpa using h9)
    refine gS<|hK k39<|gL<|gRn (oM 1 rfl<|oadN _ 1 om9 rfl<|oM 1 rfl<|.nl)<|nN<|fun a51 w51 h51=>x_again ⟨_, ?_,p,(k+1),l, ?_, ?_, ?_, ?_, ?_,h51.nf ⟨rfl,rfl,rfl,rfl,rfl,trivial⟩,rfl⟩
    · rw [hm32];first|omega|(simp only [lens9];omega)
    · omega
    · omega
    · simpa using hll
    · first|exact hkpY|exact hkpN
    · intro j h1 h2;first|exact hsm j (by omega) h2|(rw [nth_set,if_neg (by omega)];exact hsm j (by omega) h2)
   refine gX<|hK k30<|sK fun _ k52=>gNl (aO 0 rfl) fun (hl53:l.length≤140737488355328)=>gRn (oM 2 rfl<|oV (r_slL (s:=(⟨s.v,l⟩:Ls OutL)) (k:=p) sl_35 ti_39 rfl rfl rfl (fun w h=>(h.own 0 rfl)) (show p≤l.length from om9)) rfl<|.nl)<|fun a55 w55 h55=> ?_
   have h54:=h55.truncN 0 rfl p (show p≤l.length from by omega) (show 0<l.length from by omega)
   clear h55
   have hpl:(l.take p).length=p:=by rw [List.length_take];omega
   have h56:=h54.same (d:=61) (v' :=vsub (vtake s.v p) 3 (l.take p).length s.l.length) rfl (by rw [hpl,vsub_take hsv])
   clear h54
   refine gG h56<|gE (fun _ _ h_=>x_clearT (r:=0) (hi:=s.l.length) (s:=(⟨(vtake s.v p),(l.take p)⟩:Ls OutL)) h_ sl_35 ti_39 rfl rfl rfl rfl rfl rfl (show (l.take p).length<s.l.length∧s.l.length≤vcap (vtake s.v p) from (by rw [hpl,vcap_take,hsv];exact ⟨by omega,hcap⟩)) rfl) rfl<|nK k52<|sG (oM 2 rfl<|oV (r_slHv (v:=s.v) (j:=p) sl_35 ti_39 rfl rfl rfl ⟨gb,_,cap,hsv,hcap,by omega,by omega⟩) rfl<|oM 1 rfl<|.nl)<|gR<|fun a59 w59 h59=> ?_;clear h56
   try simp only [Exit.then,Exit.inBlock]
   refine x_ret1 (fn:=Tryz.f104) (t:=4) rfl h59 rfl ?_
   exact ⟨⟨vtake s.v p,l.take p⟩,rfl,(by show l.take p=_;rw [hkp,show i+k=s.l.length by omega]),h59.sh⟩
  refine gS<|hK k25<|gL<|gRn (oM 1 rfl<|oadN _ 1 om9 rfl<|oM 1 rfl<|.nl)<|nN<|fun a60 w60 h60=>x_again ⟨_, ?_,i+1, ?_, ?_,h60.nf ⟨rfl,rfl,rfl,trivial⟩,rfl⟩
  · rw [hm20];first|omega|(simp only [lens9];omega)
  · omega
  · exact snocE hall (by assumption)
 refine gX<|hK k18<|sG (oM 2 rfl<|.nl)<|gR<|fun a62 w62 h62=> ?_
 try simp only [Exit.then,Exit.inBlock]
 refine x_ret1 (fn:=Tryz.f104) (t:=4) rfl h62 rfl ?_
 first|exact ⟨s,rfl,(by rw [keepL_all (Nat.le_refl _) (fun j h1 h2=>by omega),List.take_length]),h62.sh⟩|exact ⟨s,rfl,(by rw [keepL_all (Nat.le_refl _) (fun j h1 h2=>hall j h1 (by omega)),List.take_length]),h62.sh⟩
end Go.Proofs.YtmjkobhkkjgplaaGreatDoor
