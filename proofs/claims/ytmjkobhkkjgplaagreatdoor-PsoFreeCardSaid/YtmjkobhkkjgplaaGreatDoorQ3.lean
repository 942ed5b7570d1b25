/- Part 3 of the texts. -/
import Derived.Test.YtmjkobhkkjgplaaGreatDoorQ2
import Derived.Laws.RangeString
import Derived.Laws.IdiomStrings
import Derived.Laws.Bits64b
import Derived.Maps.RangeRun
import Derived.Laws.Externs
import Derived.RangeFuncBox
import Derived.RangeFuncLeaves
import Derived.RangeFuncFrom
import Derived.Shelf.Abstract
import Derived.OwnWalkIn
import Derived.TacticsInMore
import Derived.LoopNIn
import Derived.LoopIn
import Derived.RangeFuncNested
namespace Go.Proofs.YtmjkobhkkjgplaaGreatDoor
open Go.RowKit
set_option linter.unusedSimpArgs false
set_option linter.unusedVariables false
set_option maxRecDepth 100000
set_option maxHeartbeats 4000000
theorem za9 (zk:Ls (Ls Ins))(code:Ls Ins)(W:World)(hb:zk.At W)(hc:code.At W)(hlen:zk.l.length=code.l.length)(qg:code.l.length<=5000)(h8:∀i,i<code.l.length->(nth zk.l i).l.length<=8)(zrZ:bM zk.l code.l):
    zP Tryz.prog 80 [zk.v,code.v] W (λv w' =>∃s:Ls Ins,v=s.v/\s.l=CS (zk.l.map (·.l)) code.l/\qM W w' [.own 32 s]):=by
 refine gen Tryz.func80 Tryz.ntmps80 (qM.Jo hb hc:Sh (λ_=>False) W W [.at_ zk,.at_ code]) V λjP z7=>gG z7<|sG (oM 1 V<|.nl)<|sK λ_ j1=>y4 (aA 1 V) λc7=>zn (oM 1 V<|wk yZ (aA 1 V) V<|yl _ 1 zp V<|.nl)<|xb (λ_ _ h_=>G4 (n:=code.l.length+1) (0:Int) h_ zt zj V V V V V (show 8*(code.l.length+1)<=140737488355328/\code.l.length+1<=140737488355328 from zp) (λw=>Flat.inner _ _) (λb=>Flat.on _ _) V V) V λKC=>zn (oM 1 V<|.nl)<|nK j1<|sG (oM 1 V<|.nl)<|gK λ_ nC=>sG (oM 1 V<|.nl)<|gB<|λPS Na XU=>qE (λm a w=>∃(k n:Nat) (pl:List Int),(k<=code.l.length)/\(pl.length=code.l.length+1)/\(n=y6 (zk.l.map (·.l)) k)/\(n<=8*k)/\(∀j,j<k->nth pl j=(y6 (zk.l.map (·.l)) j:Int))/\St 123 (λ_=>False) W a w [(0,zk.v),(1,code.v),(5,KC),(6,.int .i64 ((n:Nat):Int)),(7,.int .i64 ((k:Nat):Int))] [.own 3 (⟨KC,pl⟩:Ls Int),.at_ zk,.at_ code]/\m=code.l.length-k) ⟨_,0,0,List.replicate (code.l.length+1) 0,za,(by simp),(V),za,(λj hj=>absurd hj za),XU.nf ⟨V,V,V,V,V,trivial⟩,V⟩ ?_;clear z7
 clear XU
 rintro m18 HS Hx ⟨k,n,pl,hk,Rf,hn,hn8,zcr,jc,uM⟩
 refine gG jc<|gK λ_ K7=>sG (oM 2 V<|wk yZ (aA 2 V) V<|xk _ _ V<|.nl)<|?_;clear jc
 refine gcd V (λGp cZ=>?_) λGp cZ=>?_
 ·skip
  refine gS<|hK K7<|gK λ_ V6=>gB<|sK λ_ Ke=>y4 (aO 0 V) λ(zc5:pl.length<=140737488355328)=>zn (oM 3 V<|jo zt zj (aO 0 V) _ zp V<|.nl)<|XK 0 (((n:Nat):Int):Int) zj zp V V<|nK Ke<|gL<|y4 (aA 1 V) λzc4=>y4 (λw h=>((h.at 1 V).nth k (show k<zk.l.length from za))) λ(zrl:((nth zk.l k).l).length<=140737488355328)=>zn (oM 3 V<|jo vp jN (aA 1 V) _ zp V<|Z1 ((nth zk.l k).v) jN (aA 1 V) zp V<|wk (n:=((nth zk.l k).l).length) yZ (λw h=>((h.at 1 V).nth k (show k<zk.l.length from za))) V<|yl _ _ zp V<|oM 1 V<|.nl)<|nK V6<|gL<|zn (oM 1 V<|yl _ 1 zp V<|oM 1 V<|.nl)<|nN<|λmg lW w8=>zH ⟨_,?_,k+1,n+(((nth zk.l k).l).length),pl.set k ((n:Nat):Int),?_,?_,?_,?_,?_,w8.nf ⟨V,V,V,V,V,trivial⟩,V⟩
  · rw [uM];first|omega|(simp only [qf];omega)
  · omega
  · simpa using Rf
  · rw [Vi _ _ (by simp;omega),zI _ _ _ za,<-hn]
  · have:=h8 k za;omega
  · intro j hj;rw [jt];split;(rename_i hh;obtain ⟨rfl,_⟩:=hh;rw [hn]);exact zcr j za
 refine gX<|hK nC<|sK λ_ HH=>y4 (aO 0 V) λ(OR:pl.length<=140737488355328)=>zn (oM 2 V<|wk yZ (aA 2 V) V<|oM 1 V<|jo zt zj (aO 0 V) _ zp V<|.nl)<|XK 0 (((n:Nat):Int):Int) zj zp V V<|nK HH<|?_
 have zwL:(pl.set code.l.length (n:Int)).length=code.l.length+1:=by simpa using Rf
 have Dw:k=code.l.length:=za
 have nX:∀j,j<=code.l.length->nth (pl.set code.l.length (n:Int)) j=(y6 (zk.l.map (·.l)) j:Int):=by
  intro j hj;rw [jt];split;(rename_i hh;obtain ⟨rfl,_⟩:=hh;rw [hn,Dw]);exact zcr j za
 generalize hpg:pl.set code.l.length (n:Int)=pm at*
 clear zcr hpg Rf
 refine sG (oM 1 V<|.nl)<|gK λ_ BA=>sG (oM 1 V<|.nl)<|gB<|λa38 w38 dW=>?_
 have KF:=dW.nil (α:=Ins) 32
 clear dW
 refine qE (λm a w=>∃(i:Nat) (out:List Ins) (vo:Value),(i<=code.l.length)/\(out=VS (zk.l.map (·.l)) code.l i)/\(out.length<=8*i)/\St 123 (λ_=>False) W a w [(0,zk.v),(1,code.v),(5,KC),(8,vo),(9,.int .i64 ((i:Nat):Int))] [.own 3 (⟨KC,pm⟩:Ls Int),.at_ zk,.at_ code,.own 32 (⟨vo,out⟩:Ls Ins)]/\m=code.l.length-i) ⟨_,0,[],(.slice none 0 0),za,(V),(by simp),KF.wN ⟨V,V,V,V,V,trivial⟩ [1,2,3,0] V,V⟩ ?_
 clear KF
 rintro m36 py lV ⟨i,out,vo,hi,zio,ho8,QJ,zq2⟩
 refine gG QJ<|gK λ_ k39=>sG (oM 2 V<|wk yZ (aA 2 V) V<|xk _ _ V<|.nl)<|?_;clear QJ
 refine gcd V (λB5 cU=>?_) λB5 cU=>?_
 ·skip
  refine gS<|hK k39<|gK λ_ Ol=>gB<|sG (oM 1 V<|.nl)<|gB<|λa45 w45 dV=>qE (λm a w=>∃(k2:Nat) (kL:List Ins) (A5:Value),(k2<=(nth zk.l i).l.length)/\(kL=out++((nth zk.l i).l.take k2).map (YE (zk.l.map (·.l)) code.l i))/\(kL.length=out.length+k2)/\St 123 (λ_=>False) W a w [(0,zk.v),(1,code.v),(5,KC),(8,A5),(9,.int .i64 ((i:Nat):Int)),(10,.int .i64 ((k2:Nat):Int))] [.own 3 (⟨KC,pm⟩:Ls Int),.at_ zk,.at_ code,.own 32 (⟨A5,kL⟩:Ls Ins)]/\m=(nth zk.l i).l.length-k2) ⟨_,0,out,vo,za,(by simp),(by simp),dV.nf ⟨V,V,V,V,V,V,trivial⟩,V⟩ ?_
  clear dV
  rintro m44 a44 tu ⟨k2,kL,A5,OV,U3,zwT,Rj,oo⟩
  have h8i:=h8 i za
  refine gG Rj<|gK λ_ k46=>sK λ_ EL=>y4 (aA 1 V) λzxt=>y4 (λw h=>((h.at 1 V).nth i (show i<zk.l.length from za))) λ(zrf:((nth zk.l i).l).length<=140737488355328)=>zn (oM 3 V<|jo vp jN (aA 1 V) _ zp V<|Z1 ((nth zk.l i).v) jN (aA 1 V) zp V<|wk (n:=((nth zk.l i).l).length) yZ (λw h=>((h.at 1 V).nth i (show i<zk.l.length from za))) V<|xk _ _ V<|.nl)<|nK EL<|?_;clear Rj
  refine gcd V (λZm cT=>?_) λZm cT=>?_
  ·skip
   refine gS<|hK k46<|?_
   have hbk:=zrZ i za k2 za
   refine gK λ_ EJ=>gB<|sK λ_ EI=>zn (oM 2 V<|jo vp jN (aA 1 V) _ zp V<|Z1 ((nth zk.l i).v) jN (aA 1 V) zp V<|oM 1 V<|jo yZ qG (λw h=>((h.at 1 V).nth i (show i<zk.l.length from za))) _ zp V<|Xz [.int .i64 ((nth ((nth zk.l i).l) k2).op),.int .i64 ((nth ((nth zk.l i).l) k2).a),.int .i64 ((nth ((nth zk.l i).l) k2).b),.int .i64 ((nth ((nth zk.l i).l) k2).c)] qG (λw h=>((h.at 1 V).nth i (show i<zk.l.length from za))) zp V<|.nl)<|Q2 qG V λb53=>YK 0 qG V V V<|nK EI<|gK λ_ Sx=>sK λ_ k56=>zn (qB xL V<|qw 0 zj V V<|yK _ _ V<|oM 1 V<|.nl)<|?_
   rcases G3 ((nth ((nth zk.l i).l) k2).op=14) with ⟨Km,zqt⟩|⟨Km,zqt⟩
   ·skip
    refine zn (oG Km (zG V V) V<|oG Km (zG V V) V<|oG Km (gD (s:=code) (q:=i) yZ qG V V V (λw h=>(h.at 3 V)) (show i<code.l.length from zp)) V<|oG Km (jT (r:=0) xL V V V) V<|oG Km (x6 (s:=code) (i:=i) (v:= .int .i64 ((nth code.l i).op)) zj V V V (λw h=>(h.at 3 V)) (show i<code.l.length from zp) (y5 V) V) V<|oG Km (kJ (p:=(nth code.l i).op) (q:=14) V V V) V<|oG Km (zG V V) V<|.nl)<|?_
    rcases G3 ((nth code.l i).op=14) with ⟨HP,FB⟩|⟨HP,FB⟩
    ·skip
     refine zn (Zy 6 HP V V<|oG Km (cb V V HP V) V<|QV Km V<|.nl)<|nK k56<|gF [0,1,5,8,9,10,11,78] V<|BJ V V<|gL<|y4 (aO 1 V) λ(zrd:pm.length<=140737488355328)=>zn (oM 1 V<|qB qm V<|qw 0 zj V V<|vC zt zj (aO 1 V) zp V<|Z1 (.int .i64 (nth pm (((nth ((nth zk.l i).l) k2).a).toNat))) zj (aO 1 V) zp V<|qB qm V<|.nl)<|dX 0 zj V V V<|nK Sx<|gK λ_ k61=>sG (qB xL V<|qw 0 zj V V<|yK _ _ V<|oM 1 V<|Zy 6 (decide_eq_false za) V V<|Zx (decide_eq_false za) V<|.nl)<|Q1 V V<|gS<|hK k61<|gK λ_ Oj=>sG (qB xL V<|qw 0 zj V V<|yK _ _ V<|oM 1 V<|Zy 6 (decide_eq_false za) V V<|Zx (decide_eq_false za) V<|.nl)<|gF [0,1,5,8,9,10,11,112] V<|Q1 V V<|gS<|hK Oj<|gL<|zn (oM 1 V<|kt 0 qG V V<|.nl)<|xb (λ_ _ h_=>qF (n:=1) (cs:= [.int .i64 ((nth ((nth zk.l i).l) k2).op),.int .i64 (nth pm (((nth ((nth zk.l i).l) k2).a).toNat)),.int .i64 ((nth ((nth zk.l i).l) k2).b),.int .i64 ((nth ((nth zk.l i).l) k2).c)]) ([(⟨(nth ((nth zk.l i).l) k2).op,nth pm (((nth ((nth zk.l i).l) k2).a).toNat),(nth ((nth zk.l i).l) k2).b,(nth ((nth zk.l i).l) k2).c⟩:Ins)]:List Ins) h_ yZ qG V V V zf V zb V (λq hq w h=>Flat.inner _ _) (λq hq b hb=>(Flat.on _ _ hb).elim) V V) V λv65=>xb (λ_ _ h_=>yu (r:=5) (rm:=0) (s:=(⟨A5,kL⟩:Ls Ins)) (m:=(⟨v65,[(⟨(nth ((nth zk.l i).l) k2).op,nth pm (((nth ((nth zk.l i).l) k2).a).toNat),(nth ((nth zk.l i).l) k2).b,(nth ((nth zk.l i).l) k2).c⟩:Ins)]⟩:Ls Ins)) h_ yZ qG V V V V V V V (λw h=>(h.own 0 V)) (λb hb=>qt (h_.sh.ok _ (zy (i:=0) V)) hb) (λq hq b hb=>⟨q,hq,hb⟩) V V V inferInstance (show (kL.length+([(⟨(nth ((nth zk.l i).l) k2).op,nth pm (((nth ((nth zk.l i).l) k2).a).toNat),(nth ((nth zk.l i).l) k2).b,(nth ((nth zk.l i).l) k2).c⟩:Ins)]).length)*32<=140737488355328/\kL.length+([(⟨(nth ((nth zk.l i).l) k2).op,nth pm (((nth ((nth zk.l i).l) k2).a).toNat),(nth ((nth zk.l i).l) k2).b,(nth ((nth zk.l i).l) k2).c⟩:Ins)]).length<=140737488355328 from zp) V V) V λv66=>zn (oM 1 V<|.nl)<|nK EJ<|gL<|zn (oM 1 V<|yl _ 1 zp V<|oM 1 V<|.nl)<|nN<|λa67 w67 AI=>zH ⟨_,?_,k2+1,kL++([(⟨(nth ((nth zk.l i).l) k2).op,nth pm (((nth ((nth zk.l i).l) k2).a).toNat),(nth ((nth zk.l i).l) k2).b,(nth ((nth zk.l i).l) k2).c⟩:Ins)]),v66,?_,?_,?_,AI.wN ⟨V,V,V,V,V,V,trivial⟩ [2,3,4,5] V,V⟩
     · rw [oo];first|omega|(simp only [qf];omega)
     · omega
     · rw [U3,zS _ _ za,yi,<-xi];congr 1;simp only [xA,wY];congr 1;unfold YE;(repeat' split)<;>first|(exfalso;omega)|rfl|(rw [nX _ za])
     · simp;omega
    refine zn (oG HP (zG V V) V<|oG HP (zG V V) V<|oG HP (gD (s:=code) (q:=i) yZ qG V V V (λw h=>(h.at 3 V)) (show i<code.l.length from zp)) V<|oG HP (jT (r:=0) xL V V V) V<|oG HP (x6 (s:=code) (i:=i) (v:= .int .i64 ((nth code.l i).op)) zj V V V (λw h=>(h.at 3 V)) (show i<code.l.length from zp) (y5 V) V) V<|oG HP (kJ (p:=(nth code.l i).op) (q:=15) V V V) V<|oG Km (cc V V HP V) V<|QV Km V<|.nl)<|nK k56<|gF [0,1,5,8,9,10,11,78] V<|gcd V (λzsd zqo=>?_) λzsd zqo=>?_
    ·skip
     refine gL<|y4 (aO 1 V) λ(zrb:pm.length<=140737488355328)=>zn (oM 1 V<|qB qm V<|qw 0 zj V V<|vC zt zj (aO 1 V) zp V<|Z1 (.int .i64 (nth pm (((nth ((nth zk.l i).l) k2).a).toNat))) zj (aO 1 V) zp V<|qB qm V<|.nl)<|dX 0 zj V V V<|nK Sx<|gK λ_ k71=>sG (qB xL V<|qw 0 zj V V<|yK _ _ V<|oM 1 V<|Zy 6 (decide_eq_false za) V V<|Zx (decide_eq_false za) V<|.nl)<|Q1 V V<|gS<|hK k71<|gK λ_ k73=>sG (qB xL V<|qw 0 zj V V<|yK _ _ V<|oM 1 V<|Zy 6 (decide_eq_false za) V V<|Zx (decide_eq_false za) V<|.nl)<|gF [0,1,5,8,9,10,11,112] V<|Q1 V V<|gS<|hK k73<|gL<|zn (oM 1 V<|kt 0 qG V V<|.nl)<|xb (λ_ _ h_=>qF (n:=1) (cs:= [.int .i64 ((nth ((nth zk.l i).l) k2).op),.int .i64 (nth pm (((nth ((nth zk.l i).l) k2).a).toNat)),.int .i64 ((nth ((nth zk.l i).l) k2).b),.int .i64 ((nth ((nth zk.l i).l) k2).c)]) ([(⟨(nth ((nth zk.l i).l) k2).op,nth pm (((nth ((nth zk.l i).l) k2).a).toNat),(nth ((nth zk.l i).l) k2).b,(nth ((nth zk.l i).l) k2).c⟩:Ins)]:List Ins) h_ yZ qG V V V zf V zb V (λq hq w h=>Flat.inner _ _) (λq hq b hb=>(Flat.on _ _ hb).elim) V V) V λv75=>xb (λ_ _ h_=>yu (r:=5) (rm:=0) (s:=(⟨A5,kL⟩:Ls Ins)) (m:=(⟨v75,[(⟨(nth ((nth zk.l i).l) k2).op,nth pm (((nth ((nth zk.l i).l) k2).a).toNat),(nth ((nth zk.l i).l) k2).b,(nth ((nth zk.l i).l) k2).c⟩:Ins)]⟩:Ls Ins)) h_ yZ qG V V V V V V V (λw h=>(h.own 0 V)) (λb hb=>qt (h_.sh.ok _ (zy (i:=0) V)) hb) (λq hq b hb=>⟨q,hq,hb⟩) V V V inferInstance (show (kL.length+([(⟨(nth ((nth zk.l i).l) k2).op,nth pm (((nth ((nth zk.l i).l) k2).a).toNat),(nth ((nth zk.l i).l) k2).b,(nth ((nth zk.l i).l) k2).c⟩:Ins)]).length)*32<=140737488355328/\kL.length+([(⟨(nth ((nth zk.l i).l) k2).op,nth pm (((nth ((nth zk.l i).l) k2).a).toNat),(nth ((nth zk.l i).l) k2).b,(nth ((nth zk.l i).l) k2).c⟩:Ins)]).length<=140737488355328 from zp) V V) V λv76=>zn (oM 1 V<|.nl)<|nK EJ<|gL<|zn (oM 1 V<|yl _ 1 zp V<|oM 1 V<|.nl)<|nN<|λa77 w77 O5=>zH ⟨_,?_,k2+1,kL++([(⟨(nth ((nth zk.l i).l) k2).op,nth pm (((nth ((nth zk.l i).l) k2).a).toNat),(nth ((nth zk.l i).l) k2).b,(nth ((nth zk.l i).l) k2).c⟩:Ins)]),v76,?_,?_,?_,O5.wN ⟨V,V,V,V,V,V,trivial⟩ [2,3,4,5] V,V⟩
     · rw [oo];first|omega|(simp only [qf];omega)
     · omega
     · rw [U3,zS _ _ za,yi,<-xi];congr 1;simp only [xA,wY];congr 1;unfold YE;(repeat' split)<;>first|(exfalso;omega)|rfl|(rw [nX _ za])
     · simp;omega
    refine gS<|hK Sx<|gK λ_ k78=>sG (qB xL V<|qw 0 zj V V<|yK _ _ V<|oM 1 V<|Zy 6 (decide_eq_false za) V V<|Zx (decide_eq_false za) V<|.nl)<|Q1 V V<|gS<|hK k78<|gK λ_ k80=>sG (qB xL V<|qw 0 zj V V<|yK _ _ V<|oM 1 V<|Zy 6 (decide_eq_false za) V V<|Zx (decide_eq_false za) V<|.nl)<|Q1 V V<|gS<|hK k80<|gF [0,1,5,8,9,10,11] V<|gL<|zn (oM 1 V<|kt 0 qG V V<|.nl)<|xb (λ_ _ h_=>qF (n:=1) (cs:= [.int .i64 ((nth ((nth zk.l i).l) k2).op),.int .i64 ((nth ((nth zk.l i).l) k2).a),.int .i64 ((nth ((nth zk.l i).l) k2).b),.int .i64 ((nth ((nth zk.l i).l) k2).c)]) ([(nth ((nth zk.l i).l) k2)]:List Ins) h_ yZ qG V V V zf V zb V (λq hq w h=>Flat.inner _ _) (λq hq b hb=>(Flat.on _ _ hb).elim) V V) V λv82=>xb (λ_ _ h_=>yu (r:=5) (rm:=0) (s:=(⟨A5,kL⟩:Ls Ins)) (m:=(⟨v82,[(nth ((nth zk.l i).l) k2)]⟩:Ls Ins)) h_ yZ qG V V V V V V V (λw h=>(h.own 0 V)) (λb hb=>qt (h_.sh.ok _ (zy (i:=0) V)) hb) (λq hq b hb=>⟨q,hq,hb⟩) V V V inferInstance (show (kL.length+([(nth ((nth zk.l i).l) k2)]).length)*32<=140737488355328/\kL.length+([(nth ((nth zk.l i).l) k2)]).length<=140737488355328 from zp) V V) V λv83=>zn (oM 1 V<|.nl)<|nK EJ<|gL<|zn (oM 1 V<|yl _ 1 zp V<|oM 1 V<|.nl)<|nN<|λa84 w84 oN=>zH ⟨_,?_,k2+1,kL++([(nth ((nth zk.l i).l) k2)]),v83,?_,?_,?_,oN.wN ⟨V,V,V,V,V,V,trivial⟩ [2,3,4,5] V,V⟩
    · rw [oo];first|omega|(simp only [qf];omega)
    · omega
    · rw [U3,zS _ _ za,yi,<-xi];congr 1;simp only [xA,wY];congr 1;unfold YE;(repeat' split)<;>first|(exfalso;omega)|rfl|(rw [nX _ za])
    · simp;omega
   refine zn (Zy 7 Km V V<|NV V<|NV V<|NV V<|NV V<|NV V<|NV V<|oK Km V<|Zx Km V<|.nl)<|nK k56<|gF [0,1,5,8,9,10,11,78] V<|Q1 V V<|gS<|hK Sx<|gK λ_ k85=>sK λ_ k86=>zn (qB xL V<|qw 0 zj V V<|yK _ _ V<|oM 1 V<|.nl)<|?_
   rcases G3 ((nth ((nth zk.l i).l) k2).op=15) with ⟨ZA,Fz⟩|⟨ZA,Fz⟩
   ·skip
    refine zn (oG ZA (zG V V) V<|oG ZA (zG V V) V<|oG ZA (gD (s:=code) (q:=i) yZ qG V V V (λw h=>(h.at 3 V)) (show i<code.l.length from zp)) V<|oG ZA (jT (r:=0) xL V V V) V<|oG ZA (x6 (s:=code) (i:=i) (v:= .int .i64 ((nth code.l i).op)) zj V V V (λw h=>(h.at 3 V)) (show i<code.l.length from zp) (y5 V) V) V<|oG ZA (kJ (p:=(nth code.l i).op) (q:=15) V V V) V<|QV ZA V<|.nl)<|nK k86<|gcd V (λzdp zcv=>?_) λzdp zcv=>?_
    ·skip
     refine gL<|y4 (aO 1 V) λ(zxe:pm.length<=140737488355328)=>zn (oM 1 V<|qB qZ V<|qw 0 zj V V<|vC zt zj (aO 1 V) zp V<|Z1 (.int .i64 (nth pm (((nth ((nth zk.l i).l) k2).b).toNat))) zj (aO 1 V) zp V<|qB qZ V<|.nl)<|dX 0 zj V V V<|nK k85<|gK λ_ k91=>sG (qB xL V<|qw 0 zj V V<|yK _ _ V<|oM 1 V<|oG ZA (zG V V) V<|oG ZA (zG V V) V<|oG ZA (gD (s:=code) (q:=i) yZ qG V V V (λw h=>(h.at 3 V)) (show i<code.l.length from zp)) V<|oG ZA (jT (r:=0) xL V V V) V<|oG ZA (x6 (s:=code) (i:=i) (v:= .int .i64 ((nth code.l i).op)) zj V V V (λw h=>(h.at 3 V)) (show i<code.l.length from zp) (y5 V) V) V<|oG ZA (kJ (p:=(nth code.l i).op) (q:=17) V V V) V<|QV ZA V<|.nl)<|gF [0,1,5,8,9,10,11,112] V<|Q1 V (decide_eq_false za)<|gS<|hK k91<|gL<|zn (oM 1 V<|kt 0 qG V V<|.nl)<|xb (λ_ _ h_=>qF (n:=1) (cs:= [.int .i64 ((nth ((nth zk.l i).l) k2).op),.int .i64 ((nth ((nth zk.l i).l) k2).a),.int .i64 (nth pm (((nth ((nth zk.l i).l) k2).b).toNat)),.int .i64 ((nth ((nth zk.l i).l) k2).c)]) ([(⟨(nth ((nth zk.l i).l) k2).op,(nth ((nth zk.l i).l) k2).a,nth pm (((nth ((nth zk.l i).l) k2).b).toNat),(nth ((nth zk.l i).l) k2).c⟩:Ins)]:List Ins) h_ yZ qG V V V zf V zb V (λq hq w h=>Flat.inner _ _) (λq hq b hb=>(Flat.on _ _ hb).elim) V V) V λv93=>xb (λ_ _ h_=>yu (r:=5) (rm:=0) (s:=(⟨A5,kL⟩:Ls Ins)) (m:=(⟨v93,[(⟨(nth ((nth zk.l i).l) k2).op,(nth ((nth zk.l i).l) k2).a,nth pm (((nth ((nth zk.l i).l) k2).b).toNat),(nth ((nth zk.l i).l) k2).c⟩:Ins)]⟩:Ls Ins)) h_ yZ qG V V V V V V V (λw h=>(h.own 0 V)) (λb hb=>qt (h_.sh.ok _ (zy (i:=0) V)) hb) (λq hq b hb=>⟨q,hq,hb⟩) V V V inferInstance (show (kL.length+([(⟨(nth ((nth zk.l i).l) k2).op,(nth ((nth zk.l i).l) k2).a,nth pm (((nth ((nth zk.l i).l) k2).b).toNat),(nth ((nth zk.l i).l) k2).c⟩:Ins)]).length)*32<=140737488355328/\kL.length+([(⟨(nth ((nth zk.l i).l) k2).op,(nth ((nth zk.l i).l) k2).a,nth pm (((nth ((nth zk.l i).l) k2).b).toNat),(nth ((nth zk.l i).l) k2).c⟩:Ins)]).length<=140737488355328 from zp) V V) V λv94=>zn (oM 1 V<|.nl)<|nK EJ<|gL<|zn (oM 1 V<|yl _ 1 zp V<|oM 1 V<|.nl)<|nN<|λa95 w95 h95=>zH ⟨_,?_,k2+1,kL++([(⟨(nth ((nth zk.l i).l) k2).op,(nth ((nth zk.l i).l) k2).a,nth pm (((nth ((nth zk.l i).l) k2).b).toNat),(nth ((nth zk.l i).l) k2).c⟩:Ins)]),v94,?_,?_,?_,h95.wN ⟨V,V,V,V,V,V,trivial⟩ [2,3,4,5] V,V⟩
     · rw [oo];first|omega|(simp only [qf];omega)
     · omega
     · rw [U3,zS _ _ za,yi,<-xi];congr 1;simp only [xA,wY];congr 1;unfold YE;(repeat' split)<;>first|(exfalso;omega)|rfl|(rw [nX _ za])
     · simp;omega
    refine gS<|hK k85<|gK λ_ k96=>sG (qB xL V<|qw 0 zj V V<|yK _ _ V<|oM 1 V<|oG ZA (zG V V) V<|oG ZA (zG V V) V<|oG ZA (gD (s:=code) (q:=i) yZ qG V V V (λw h=>(h.at 3 V)) (show i<code.l.length from zp)) V<|oG ZA (jT (r:=0) xL V V V) V<|oG ZA (x6 (s:=code) (i:=i) (v:= .int .i64 ((nth code.l i).op)) zj V V V (λw h=>(h.at 3 V)) (show i<code.l.length from zp) (y5 V) V) V<|oG ZA (kJ (p:=(nth code.l i).op) (q:=17) V V V) V<|QV ZA V<|.nl)<|gcd V (λzr3 zqa=>?_) λzr3 zqa=>?_
    ·skip
     refine gL<|y4 (aO 1 V) λ(zxb:pm.length<=140737488355328)=>zn (oM 2 V<|jo zt zj (aO 1 V) _ zp V<|Z1 (.int .i64 (nth pm i)) zj (aO 1 V) zp V<|qB qZ V<|.nl)<|dX 0 zj V V V<|nK k96<|gF [0,1,5,8,9,10,11] V<|gL<|zn (oM 1 V<|kt 0 qG V V<|.nl)<|xb (λ_ _ h_=>qF (n:=1) (cs:= [.int .i64 ((nth ((nth zk.l i).l) k2).op),.int .i64 ((nth ((nth zk.l i).l) k2).a),.int .i64 (nth pm i),.int .i64 ((nth ((nth zk.l i).l) k2).c)]) ([(⟨(nth ((nth zk.l i).l) k2).op,(nth ((nth zk.l i).l) k2).a,nth pm i,(nth ((nth zk.l i).l) k2).c⟩:Ins)]:List Ins) h_ yZ qG V V V zf V zb V (λq hq w h=>Flat.inner _ _) (λq hq b hb=>(Flat.on _ _ hb).elim) V V) V λznU=>xb (λ_ _ h_=>yu (r:=5) (rm:=0) (s:=(⟨A5,kL⟩:Ls Ins)) (m:=(⟨znU,[(⟨(nth ((nth zk.l i).l) k2).op,(nth ((nth zk.l i).l) k2).a,nth pm i,(nth ((nth zk.l i).l) k2).c⟩:Ins)]⟩:Ls Ins)) h_ yZ qG V V V V V V V (λw h=>(h.own 0 V)) (λb hb=>qt (h_.sh.ok _ (zy (i:=0) V)) hb) (λq hq b hb=>⟨q,hq,hb⟩) V V V inferInstance (show (kL.length+([(⟨(nth ((nth zk.l i).l) k2).op,(nth ((nth zk.l i).l) k2).a,nth pm i,(nth ((nth zk.l i).l) k2).c⟩:Ins)]).length)*32<=140737488355328/\kL.length+([(⟨(nth ((nth zk.l i).l) k2).op,(nth ((nth zk.l i).l) k2).a,nth pm i,(nth ((nth zk.l i).l) k2).c⟩:Ins)]).length<=140737488355328 from zp) V V) V λznT=>zn (oM 1 V<|.nl)<|nK EJ<|gL<|zn (oM 1 V<|yl _ 1 zp V<|oM 1 V<|.nl)<|nN<|λzta znH oP=>zH ⟨_,?_,k2+1,kL++([(⟨(nth ((nth zk.l i).l) k2).op,(nth ((nth zk.l i).l) k2).a,nth pm i,(nth ((nth zk.l i).l) k2).c⟩:Ins)]),znT,?_,?_,?_,oP.wN ⟨V,V,V,V,V,V,trivial⟩ [2,3,4,5] V,V⟩
     · rw [oo];first|omega|(simp only [qf];omega)
     · omega
     · rw [U3,zS _ _ za,yi,<-xi];congr 1;simp only [xA,wY];congr 1;unfold YE;(repeat' split)<;>first|(exfalso;omega)|rfl|(rw [nX _ za])
     · simp;omega
    refine gS<|hK k96<|gF [0,1,5,8,9,10,11] V<|gL<|zn (oM 1 V<|kt 0 qG V V<|.nl)<|xb (λ_ _ h_=>qF (n:=1) (cs:= [.int .i64 ((nth ((nth zk.l i).l) k2).op),.int .i64 ((nth ((nth zk.l i).l) k2).a),.int .i64 ((nth ((nth zk.l i).l) k2).b),.int .i64 ((nth ((nth zk.l i).l) k2).c)]) ([(nth ((nth zk.l i).l) k2)]:List Ins) h_ yZ qG V V V zf V zb V (λq hq w h=>Flat.inner _ _) (λq hq b hb=>(Flat.on _ _ hb).elim) V V) V λznS=>xb (λ_ _ h_=>yu (r:=5) (rm:=0) (s:=(⟨A5,kL⟩:Ls Ins)) (m:=(⟨znS,[(nth ((nth zk.l i).l) k2)]⟩:Ls Ins)) h_ yZ qG V V V V V V V (λw h=>(h.own 0 V)) (λb hb=>qt (h_.sh.ok _ (zy (i:=0) V)) hb) (λq hq b hb=>⟨q,hq,hb⟩) V V V inferInstance (show (kL.length+([(nth ((nth zk.l i).l) k2)]).length)*32<=140737488355328/\kL.length+([(nth ((nth zk.l i).l) k2)]).length<=140737488355328 from zp) V V) V λv105=>zn (oM 1 V<|.nl)<|nK EJ<|gL<|zn (oM 1 V<|yl _ 1 zp V<|oM 1 V<|.nl)<|nN<|λpA my YQ=>zH ⟨_,?_,k2+1,kL++([(nth ((nth zk.l i).l) k2)]),v105,?_,?_,?_,YQ.wN ⟨V,V,V,V,V,V,trivial⟩ [2,3,4,5] V,V⟩
    · rw [oo];first|omega|(simp only [qf];omega)
    · omega
    · rw [U3,zS _ _ za,yi,<-xi];congr 1;simp only [xA,wY];congr 1;unfold YE;(repeat' split)<;>first|(exfalso;omega)|rfl|(rw [nX _ za])
    · simp;omega
   refine zn (Zy 6 ZA V V<|Zx ZA V<|.nl)<|nK k86<|Q1 V V<|gS<|hK k85<|gK λ_ uA=>sG (qB xL V<|qw 0 zj V V<|yK _ _ V<|oM 1 V<|Zy 6 ZA V V<|Zx ZA V<|.nl)<|Q1 V V<|gS<|hK uA<|gF [0,1,5,8,9,10,11] V<|gL<|zn (oM 1 V<|kt 0 qG V V<|.nl)<|xb (λ_ _ h_=>qF (n:=1) (cs:= [.int .i64 ((nth ((nth zk.l i).l) k2).op),.int .i64 ((nth ((nth zk.l i).l) k2).a),.int .i64 ((nth ((nth zk.l i).l) k2).b),.int .i64 ((nth ((nth zk.l i).l) k2).c)]) ([(nth ((nth zk.l i).l) k2)]:List Ins) h_ yZ qG V V V zf V zb V (λq hq w h=>Flat.inner _ _) (λq hq b hb=>(Flat.on _ _ hb).elim) V V) V λv109=>xb (λ_ _ h_=>yu (r:=5) (rm:=0) (s:=(⟨A5,kL⟩:Ls Ins)) (m:=(⟨v109,[(nth ((nth zk.l i).l) k2)]⟩:Ls Ins)) h_ yZ qG V V V V V V V (λw h=>(h.own 0 V)) (λb hb=>qt (h_.sh.ok _ (zy (i:=0) V)) hb) (λq hq b hb=>⟨q,hq,hb⟩) V V V inferInstance (show (kL.length+([(nth ((nth zk.l i).l) k2)]).length)*32<=140737488355328/\kL.length+([(nth ((nth zk.l i).l) k2)]).length<=140737488355328 from zp) V V) V λznR=>zn (oM 1 V<|.nl)<|nK EJ<|gL<|zn (oM 1 V<|yl _ 1 zp V<|oM 1 V<|.nl)<|nN<|λzl8 zfZ J3=>zH ⟨_,?_,k2+1,kL++([(nth ((nth zk.l i).l) k2)]),znR,?_,?_,?_,J3.wN ⟨V,V,V,V,V,V,trivial⟩ [2,3,4,5] V,V⟩
   · rw [oo];first|omega|(simp only [qf];omega)
   · omega
   · rw [U3,zS _ _ za,yi,<-xi];congr 1;simp only [xA,wY];congr 1;unfold YE;(repeat' split)<;>first|(exfalso;omega)|rfl|(rw [nX _ za])
   · simp;omega
  refine gX<|hK Ol<|gL<|zn (oM 1 V<|yl _ 1 zp V<|oM 1 V<|.nl)<|nN<|λMu A3 UC=>zH ⟨_,?_,i+1,kL,A5,?_,?_,?_,UC.nf ⟨V,V,V,V,V,trivial⟩,V⟩
  · rw [zq2];first|omega|(simp only [qf];omega)
  · omega
  · rw [U3,QR za,cq,zio,zI _ _ _ za]
  · have:=h8 i za;omega
 refine gX<|hK BA<|sG (oM 2 V<|.nl)<|gR<|λzl7 zfY Lf=>zu (fn:=Tryz.f80) (t:=4) V Lf V<|⟨⟨vo,out⟩,V,?_,(Lf.sh.zY [3] V)⟩
 show out=_;rw [zio,CS,show i=code.l.length from za]
theorem Z2 {α:Type}[Inhabited α](n:Nat)(x:α)(i:Nat)(h:i<n):nth (List.replicate n x) i=x:=by simp [nth,h]
def wR (B:Nat->Ins->List Ins)(code:List Ins):List (List Ins):=(List.range code.length).map λi=>B i (nth code i)
theorem lM (B:Nat->Ins->List Ins)(code:List Ins):(wR B code).length=code.length:=by simp [wR]
theorem GN (B:Nat->Ins->List Ins)(code:List Ins)(i:Nat)(h:i<code.length):nth (wR B code) i=B i (nth code i):=by simp [wR,nth,h]
def Vx (zk:List (List Ins))(code:List Ins)(i:Nat)(x:Ins):Ins:=
 if x.op=14/\((nth code i).op=14\/(nth code i).op=15) then { x with a:=y6 zk x.a.toNat }
 else if x.op=15/\(nth code i).op=15 then { x with b:=y6 zk x.b.toNat } else x
def Ul (B:Nat->Ins->List Ins)(code:List Ins):List Ins:=(List.range code.length).flatMap λi=>(B i (nth code i)).map (Vx (wR B code) code i)
def ztd (B:Nat->Ins->List Ins)(code:List Ins):Prop:=∀i,i<code.length->∀k,k<(B i (nth code i)).length->
 ((nth (B i (nth code i)) k).op≠14\/((nth code i).op≠14/\(nth code i).op≠15)\/(0<=(nth (B i (nth code i)) k).a/\(nth (B i (nth code i)) k).a<=code.length))/\
 ((nth (B i (nth code i)) k).op≠15\/(nth code i).op≠15\/(0<=(nth (B i (nth code i)) k).b/\(nth (B i (nth code i)) k).b<=code.length))
theorem Qv (x:Ls Int)(W:World)(hx:x.At W)(hl:x.l.length<=100000):
    zP Tryz.prog 44 [x.v] W (λv w' =>∃s:Ls Int,v=s.v/\qM W w' [.own 3 (⟨s.v,x.l⟩:Ls Int)]):=by
 refine gen Tryz.func44 Tryz.ntmps44 (qM.ext1 hx:Sh (λ_=>False) W W [.at_ x]) V λjP z7=>gG z7<|sG (oM 1 V<|.nl)<|gK λ_ j1=>sG (oM 1 V<|oV (cj (s:=x) zt V V V (λw h=>(h.at 0 V))) V<|.nl)<|?_;clear z7
 refine Xl V (λZo=>?_) λZo=>?_
 ·skip
  refine sG (oM 1 V<|.nl)<|gR<|uT<|λBK Hy w9=>zu (fn:=Tryz.f44) (t:=2) V w9 V<|⟨⟨.slice none 0 0,[]⟩,V,?_⟩
  rw [R8 hx zc]
  exact (w9.sh.nil (α:=Int) 3).zY (L' := [_]) [0] V
 refine gS<|hK j1<|sK λ_ Us=>xb (λ_ _ h_=>Xc (α:=Int) h_ zt zj V V V) V λNh=>zn (oM 1 V<|.nl)<|xb (λ_ _ h_=>yu (r:=0) (rm:=1) (s:=(⟨Nh,[]⟩:Ls Int)) (m:=x) h_ zt zj V V V V V V V (λw h=>(h.at 1 V)) (λb hb=> .inr hb) (λq hq b hb=> .inr ⟨q,hq,hb⟩) V V V inferInstance (show (([]).length+x.l.length)*8<=140737488355328/\([]).length+x.l.length<=140737488355328 from zp) V V) V λmB=>zn (oM 1 V<|.nl)<|nK Us<|gR<|λa20 mw wV=>zu (fn:=Tryz.f44) (t:=2) V wV V<|⟨⟨mB,[]⟩,V,?_⟩
 exact (wV.sh.zY [0] V)
theorem kc :je Tryz.prog 97=some (false,1,16,[.nilIface]):=zb
theorem Q7 {x:Int}(h: -1<=x):decide (x<0)=decide (x= -1):=decide_eq_decide.2 ⟨λh9=>za,λh9=>za⟩
def uo (m:Int)(code:Ls (Ls Ins))(zl:List jn)(q:List (List Wt))(owner:List Int)(t:Nat):List Mv:=uj m (nth code.l t).l t ⟨(nth zl t).pc,[],nth q t,[],owner,[],false⟩
def Ym (m:Int)(code:Ls (Ls Ins))(zl:List jn)(q:List (List Wt))(owner:List Int)(n:Nat):List Mv:=(List.range n).flatMap (uo m code zl q owner)
theorem Vl (m:Int)(code:Ls (Ls Ins))(zl:List jn)(q:List (List Wt))(owner:List Int)(n:Nat):Ym m code zl q owner (n+1)=Ym m code zl q owner n++uo m code zl q owner n:=by simp [Ym,YG]
def Qw (code:Ls (Ls Ins))(zl:List jn)(q:List (List Wt))(owner:List Int)(t:Nat):Bool:=decide ((nth zl t).pc<((nth code.l t).l.length:Int))&&q7 owner (nth q t).length (zo (nth code.l t).l (nth zl t).pc)
theorem rV {m:Int}{code:Ls (Ls Ins)}{zl:List jn}{q:List (List Wt)}{owner rl:List Int}{t:Nat}(hr:rl=((List.range (nth q t).length).filter (w6 m (nth q t))).map (λk=>((k:Nat):Int))):
  uo m code zl q owner t=(if Qw code zl q owner t=true then [⟨(t:Int),-1⟩] else [])++rl.map (λx=>(⟨(t:Int),x⟩:Mv)):=by
 rw [hr,List.map_map];rfl
theorem Eg {m:Int}{code:Ls (Ls Ins)}{zl:List jn}{q:List (List Wt)}{owner:List Int}{t:Nat} :(uo m code zl q owner t).length<=1+(nth q t).length:=by
 unfold uo uj
 rw [yX,yw]
 have h1:∀c:Bool,(if c=true then [(⟨(t:Int),-1⟩:Mv)] else []).length<=1:=λc=>by cases c<;>simp
 have h2:((List.range (nth q t).length).filter (w6 m (nth q t))).length<=(nth q t).length:=vZ (bI _ _) (by simp)
 have h3:=h1 (vT (nth code.l t).l ⟨(nth zl t).pc,[],nth q t,[],owner,[],false⟩)
 show _+((List.range (nth q t).length).filter (w6 m (nth q t))).length<=_
 omega
def D4 (code:Ls (Ls Ins))(zl:List jn)(q:List (List Wt))(t:Nat):Bool:=decide (¬(nth zl t).pc<((nth code.l t).l.length:Int))&&decide ((nth q t).length=0)
def Ks (code:Ls (Ls Ins))(zl:List jn)(q:List (List Wt)):Bool:=(List.range code.l.length).all (D4 code zl q)
theorem Po {code:Ls (Ls Ins)}{zl:List jn}{q:List (List Wt)}{t:Nat}(h:¬(nth zl t).pc<((nth code.l t).l.length:Int))(h2:(nth q t).length=0):D4 code zl q t=true:=by unfold D4;rw [decide_eq_true h,decide_eq_true h2];rfl
theorem D2 {code:Ls (Ls Ins)}{zl:List jn}{q:List (List Wt)}(h:∀j,j<code.l.length->D4 code zl q j=true):Ks code zl q=true:=by
 unfold Ks;rw [UK];intro j hj;exact h j (by simpa using hj)
theorem D3 {code:Ls (Ls Ins)}{zl:List jn}{q:List (List Wt)}{t:Nat}(ht:t<code.l.length)(h:(nth zl t).pc<((nth code.l t).l.length:Int)\/¬(nth q t).length=0):Ks code zl q=false:=by
 unfold Ks;rw [List.all_eq_false]
 refine ⟨t,by simpa using ht,?_⟩
 unfold D4
 rcases h with h|h
 ·rw [decide_eq_false za];simp
 ·rw [decide_eq_false h];simp
theorem H5 (M:Qy)(g gp:Nat)(code:Ls (Ls Ins))(zl:Ls jn)(words owner:Ls Int)(q:M.σ)(pw pv:Value)(zm z8:Int)(zq:Bool)(t:Nat)(W:World)(hM:KA Tryz.prog 182 3 M)(hB:xB W g 173 #[.iface M.T (.pointer (some M.u)),.pointer (some ⟨gp,0,none⟩),zl.v,pv,.bool zq])(hP:xB W gp 25 #[code.v,pw,.int .i64 zm,.int .i64 z8])(wg:code.At W)(vM:zl.At W)(hR:ZK 182 M W words owner q)(ht:t<code.l.length)(ht2:t<zl.l.length)(JZ:0<=(nth zl.l t).pc/\(nth zl.l t).pc<=(nth code.l t).l.length):
    zP Tryz.prog 128 [.pointer (some ⟨g,0,none⟩),.int .i64 ((t:Nat):Int)] W (λv w' =>v= .tuple #[(zo (nth code.l t).l (nth zl.l t).pc).val,.bool (decide ((nth zl.l t).pc<((nth code.l t).l.length:Int)))]/\qM W w' []):=by
 refine gen Tryz.func128 Tryz.ntmps128 (qM.ext (by intro A hA;simp only [z6,qd,or_false] at hA;rcases hA with rfl|rfl|rfl|rfl|rfl|rfl|rfl|rfl;exact hB;exact hP;exact wg;exact vM;exact hR.zM;exact hR.wa;exact hR.oa;exact (λA hA=>by obtain rfl:=List.mem_singleton.1 hA;exact hR.x)) (by intro A hA b hb;simp only [z6,qd,or_false] at hA;rcases hA with rfl|rfl|rfl|rfl|rfl|rfl|rfl|rfl<;>exact hb):Sh (λ_=>False) W W [.zx g 173 [.iface M.T (.pointer (some M.u)),.pointer (some ⟨gp,0,none⟩),zl.v,pv,.bool zq],.zx gp 25 [code.v,pw,.int .i64 zm,.int .i64 z8],.at_ code,.at_ zl,.zx M.g0 182 [words.v,owner.v],.at_ words,.at_ owner,.ro [M.X q]]) V λjP z7=>gG z7<|sK λ_ kz=>Q2 qG V λxX=>zn (oM 1 V<|.nl)<|nK kz<|gK λ_ gu=>gK λ_ Xp=>y4 (aA 4 V) λB3=>y4 (aA 3 V) λIm=>y4 (λw h=>((h.at 3 V).nth t (show t<code.l.length from za))) λ(zro:((nth code.l t).l).length<=140737488355328)=>rQ (oM 1 V<|jA xM V<|w7 1 wb V V<|oM 1 V<|jo wL kI (aA 4 V) _ zp V<|QB Qq V<|wx zj (aA 4 V) zp V<|oM 1 V<|jA lx V<|w7 1 Cg V V<|jA jZ V<|w7 2 ZE V V<|oM 1 V<|jo vp jN (aA 3 V) _ zp V<|Z1 ((nth code.l t).v) jN (aA 3 V) zp V<|wk (n:=((nth code.l t).l).length) yZ (λw h=>((h.at 3 V).nth t (show t<code.l.length from za))) V<|yK _ _ V<|.nl)<|hK Xp<|?_;clear z7
 refine gcd V (λzdz zcD=>?_) λzdz zcD=>?_
 ·skip
  refine sK λ_ Va=>zn (oV (q8 (cs:= [.int .i64 0,.int .i64 0,.int .i64 0,.int .i64 0]) V V zb) V<|.nl)<|YK 0 qG V V V<|zn (oM 1 V<|.nl)<|nK Va<|gF [4,5] V<|gR<|uT<|λa21 Au Wv=>HV (fn:=Tryz.f128) (t:=4) (u:=5) (i:=0) qG V Wv V V V V<|⟨?_,(Wv.sh.zY [] V)⟩
  first|(rw [vL za,decide_eq_true za];rfl)|(rw [VZ za,decide_eq_false za];rfl)
 refine gS<|hK gu<|gK λ_ J9=>rT 20 [] (oM 1 V<|jA lx V<|w7 1 Cg V V<|jA jZ V<|w7 2 ZE V V<|oM 1 V<|jo vp jN (aA 3 V) _ zp V<|Z1 ((nth code.l t).v) jN (aA 3 V) zp V<|oM 1 V<|jA xM V<|w7 1 wb V V<|oM 1 V<|jo wL kI (aA 4 V) _ zp V<|QB Qq V<|wx zj (aA 4 V) zp V<|vC yZ qG (λw h=>((h.at 3 V).nth t (show t<code.l.length from za))) zp V<|Xz [.int .i64 ((nth ((nth code.l t).l) (((nth zl.l t).pc).toNat)).op),.int .i64 ((nth ((nth code.l t).l) (((nth zl.l t).pc).toNat)).a),.int .i64 ((nth ((nth code.l t).l) (((nth zl.l t).pc).toNat)).b),.int .i64 ((nth ((nth code.l t).l) (((nth zl.l t).pc).toNat)).c)] qG (λw h=>((h.at 3 V).nth t (show t<code.l.length from za))) zp V<|.nl)<|YK 0 qG V V V<|zn (oM 1 V<|.nl)<|nK J9<|gF [4,5] V<|gR<|λa24 dN wJ=>HV (fn:=Tryz.f128) (t:=4) (u:=5) (i:=0) qG V wJ V V V V<|⟨?_,(wJ.sh.zY [] V)⟩
 first|(rw [vL za,decide_eq_true za];rfl)|(rw [VZ za,decide_eq_false za];rfl)
theorem rF (M:Qy)(g gp:Nat)(code:Ls (Ls Ins))(zl:Ls jn)(words owner:Ls Int)(q:M.σ)(pw pv:Value)(zm z8:Int)(zq:Bool)(t:Nat)(W:World)(hM:KA Tryz.prog 182 3 M)(hB:xB W g 173 #[.iface M.T (.pointer (some M.u)),.pointer (some ⟨gp,0,none⟩),zl.v,pv,.bool zq])(hP:xB W gp 25 #[code.v,pw,.int .i64 zm,.int .i64 z8])(wg:code.At W)(vM:zl.At W)(hR:ZK 182 M W words owner q)(BU:(M.qs q).length=code.l.length)(Dh:∀t,t<code.l.length->(nth (M.qs q) t).length<=3)(Zz:zl.l.length=code.l.length)(JZ:∀t,t<code.l.length->0<=(nth zl.l t).pc/\(nth zl.l t).pc<=(nth code.l t).l.length)(gv:∀t,t<code.l.length->∀i,i<(nth code.l t).l.length->(nth (nth code.l t).l i).op=17->0<=(nth (nth code.l t).l i).a/\(nth (nth code.l t).l i).a<owner.l.length)(Vs:∀v∈owner.l,-1<=v)(ht:t<code.l.length):
    zP Tryz.prog 129 [.pointer (some ⟨g,0,none⟩),.int .i64 ((t:Nat):Int)] W (λv w' =>v= .bool (Qw code zl.l (M.qs q) owner.l t)/\qM W w' []):=by
 have zh0:=JZ t za
 refine gen Tryz.func129 Tryz.ntmps129 (qM.ext (by intro A hA;simp only [z6,qd,or_false] at hA;rcases hA with rfl|rfl|rfl|rfl|rfl|rfl|rfl|rfl;exact hB;exact hP;exact wg;exact vM;exact hR.zM;exact hR.wa;exact hR.oa;exact (λA hA=>by obtain rfl:=List.mem_singleton.1 hA;exact hR.x)) (by intro A hA b hb;simp only [z6,qd,or_false] at hA;rcases hA with rfl|rfl|rfl|rfl|rfl|rfl|rfl|rfl<;>exact hb):Sh (λ_=>False) W W [.zx g 173 [.iface M.T (.pointer (some M.u)),.pointer (some ⟨gp,0,none⟩),zl.v,pv,.bool zq],.zx gp 25 [code.v,pw,.int .i64 zm,.int .i64 z8],.at_ code,.at_ zl,.zx M.g0 182 [words.v,owner.v],.at_ words,.at_ owner,.ro [M.X q]]) V λjP z7=>gG z7<|sG (oM 1 V<|.nl)<|sK λ_ j1=>zn (oM 2 V<|.nl)<|λee BN xd=>zL (zD xd dH V V V V V (H5 M g gp code zl words owner q _ _ _ _ _ t _ hM (xd.sh.zx 0 V) (xd.sh.zx 1 V) (xd.sh.at 2 V) (xd.sh.at 3 V) ⟨xd.sh.zx 4 V,xd.sh.at 5 V,xd.sh.at 6 V,(xd.sh.ok _ (zy (i:=7) V)) _ (List.mem_singleton.2 V)⟩ za za za)) (zg V _) ?_;clear z7
 rintro HT Hz ⟨_,⟨nI,Gf⟩,Gm⟩
 subst nI
 have xr:St 54 (λ_=>False) W HT Hz _ _:=⟨Gm,xd.sh.jv Gf⟩
 clear Gm Gf
 clear xd
 refine gG xr<|zn (oM 1 V<|kK V<|kK V<|.nl)<|Q2 qG V λb16=>YK 0 qG V V V<|zn (oM 1 V<|.nl)<|nK j1<|gK λ_ JH=>sG (oM 1 V<|rM V<|.nl)<|?_;clear xr
 refine Xl V (λwQ=>?_) λwQ=>?_
 ·have Ki:¬((nth zl.l t).pc<((nth code.l t).l.length:Int)):=by simpa using wQ
  refine sG (oM 1 V<|.nl)<|gR<|uT<|λa22 eI V8=>zu (fn:=Tryz.f129) (t:=4) V V8 V<|⟨?_,(V8.sh.zY [] V)⟩
  congr 1
  unfold Qw
  first|exact yP za|(refine yO za ?_;unfold q7;first|(rw [if_pos za];done)|(rw [if_neg za,if_pos za];done)|(rw [if_neg za,if_neg za,if_pos za];first|exact yP za|exact yO za (Q7 DA))|(rw [if_neg za,if_neg za,if_neg za]))
 have Ki:(nth zl.l t).pc<((nth code.l t).l.length:Int):=by simpa using wQ
 refine gS<|hK JH<|?_
 have l5:=vL (c:=(nth code.l t).l) (pc:=(nth zl.l t).pc) za
 have OP:=gv t ht (nth zl.l t).pc.toNat za
 rw [<-l5] at OP
 refine sK λ_ V6=>zn (oM 1 V<|jA yU V<|w7 1 kc V V<|oM 1 V<|.nl)<|gP (λ_ _ h_=>ZL h_ V V V V V (hM.waits _ words owner q t ⟨h_.sh.zx 5 V,h_.sh.at 6 V,h_.sh.at 7 V,(h_.sh.ok _ (zy (i:=8) V)) _ (List.mem_singleton.2 V)⟩ za (Dh t za))) V<|zn (oM 1 V<|.nl)<|nK V6<|gK λ_ Re=>sG (qB xL V<|qw 0 zj V V<|.nl)<|gB<|gK λ_ Rc=>sG (yK _ _ V<|oM 1 V<|.nl)<|gcd V (λWr ob=>?_) λWr ob=>?_
 ·skip
  refine gS<|hK Rc<|BJ V Wr<|sG (oM 1 V<|xk _ 3 V<|oM 1 V<|.nl)<|gF [4] V<|gR<|uB<|uT<|λa31 dM ZW=>zu (fn:=Tryz.f129) (t:=4) V ZW V<|⟨?_,(ZW.sh.zY [] V)⟩
  congr 1
  unfold Qw
  first|exact yP za|(refine yO za ?_;unfold q7;first|(rw [if_pos za];done)|(rw [if_neg za,if_pos za];done)|(rw [if_neg za,if_neg za,if_pos za];first|exact yP za|exact yO za (Q7 DA))|(rw [if_neg za,if_neg za,if_neg za]))
 refine sG (yK _ _ V<|oM 1 V<|.nl)<|gcd V (λQY cX=>?_) λQY cX=>?_
 ·skip
  refine gS<|hK Rc<|BJ V QY<|sG (oM 1 V<|xk _ 3 V<|oM 1 V<|.nl)<|gF [4] V<|gR<|uB<|uT<|λa35 ME Yz=>zu (fn:=Tryz.f129) (t:=4) V Yz V<|⟨?_,(Yz.sh.zY [] V)⟩
  congr 1
  unfold Qw
  first|exact yP za|(refine yO za ?_;unfold q7;first|(rw [if_pos za];done)|(rw [if_neg za,if_pos za];done)|(rw [if_neg za,if_neg za,if_pos za];first|exact yP za|exact yO za (Q7 DA))|(rw [if_neg za,if_neg za,if_neg za]))
 refine gL<|zn (yK _ _ V<|oM 1 V<|.nl)<|nK Rc<|gcd V (λZn Dp=>?_) λZn Dp=>?_
 ·skip
  refine sG (oM 1 V<|xk _ 3 V<|oM 1 V<|.nl)<|gF [4] V<|gR<|uB<|uT<|λa38 w38 dW=>zu (fn:=Tryz.f129) (t:=4) V dW V<|⟨?_,(dW.sh.zY [] V)⟩
  congr 1
  unfold Qw
  first|exact yP za|(refine yO za ?_;unfold q7;first|(rw [if_pos za];done)|(rw [if_neg za,if_pos za];done)|(rw [if_neg za,if_neg za,if_pos za];first|exact yP za|exact yO za (Q7 DA))|(rw [if_neg za,if_neg za,if_neg za]))
 refine gK λ_ k39=>sG (yK _ _ V<|oM 1 V<|.nl)<|gF [0,5,7,23,30] V<|gcd V (λB5 cU=>?_) λB5 cU=>?_
 ·skip
  refine gS<|hK k39<|BJ V B5<|sG (oM 1 V<|KX _ 0 V<|oM 1 V<|.nl)<|gR<|uB<|uT<|λPQ MD J2=>zu (fn:=Tryz.f129) (t:=4) V J2 V<|⟨?_,(J2.sh.zY [] V)⟩
  congr 1
  unfold Qw
  first|exact yP za|(refine yO za ?_;unfold q7;first|(rw [if_pos za];done)|(rw [if_neg za,if_pos za];done)|(rw [if_neg za,if_neg za,if_pos za];first|exact yP za|exact yO za (Q7 DA))|(rw [if_neg za,if_neg za,if_neg za]))
 refine gL<|zn (yK _ _ V<|oM 1 V<|.nl)<|nK k39<|gcd V (λzdw FE=>?_) λzdw FE=>?_
 ·skip
  refine sG (oM 1 V<|KX _ 0 V<|oM 1 V<|.nl)<|gR<|uB<|uT<|λa46 w46 B9=>zu (fn:=Tryz.f129) (t:=4) V B9 V<|⟨?_,(B9.sh.zY [] V)⟩
  congr 1
  unfold Qw
  first|exact yP za|(refine yO za ?_;unfold q7;first|(rw [if_pos za];done)|(rw [if_neg za,if_pos za];done)|(rw [if_neg za,if_neg za,if_pos za];first|exact yP za|exact yO za (Q7 DA))|(rw [if_neg za,if_neg za,if_neg za]))
 refine sG (yK _ _ V<|oM 1 V<|.nl)<|gcd V (λzdu zqw=>?_) λzdu zqw=>?_
 ·skip
  have zw7:=OP zc
  have DA:=Vs _ (qb owner.l (zo (nth code.l t).l (nth zl.l t).pc).a.toNat za)
  refine gK λ_ EK=>λa50 w50 Ri=>wS zb zb Ri λ_ z51=>qQ Ri.fr<|vu (oM 1 V<|KX _ 0 V<|oM 1 V<|.nl)<|?_
  rcases G3 ((nth (M.qs q) t).length=0) with ⟨Xi,n3⟩|⟨Xi,n3⟩
  ·skip
   refine vu (oG Xi (zG V V) V<|oG Xi (jC V V) V<|oG Xi (zT (r:=0) yU V V V) V<|oG Xi (kh kc V V (λw h=>h.zx 1 V) V) V<|.nl)<|λ_ hq=>XZ hq V V V (jx hq V V V V Xi) V V (λw h=>(hM.base _ words owner q ⟨h.zx 5 V,h.at 6 V,h.at 7 V,(h.ok _ (zy (i:=8) V)) _ (List.mem_singleton.2 V)⟩))<|vu (oG Xi (jC V V) V<|oG Xi (zT (r:=1) Zp V V V) V<|oG Xi (kh zV V V (λw h=>h.zx 5 V) V) V<|oG Xi (zT (r:=1) qm V V V) V<|oG Xi (xV (i:=0) zj V V V V) V<|.nl)<|?_
   have zxm:owner.l.length<=140737488355328:=(Ri.sh.at 7 V).len
   refine vu (oG Xi (RU (s:=owner) (q:=(zo (nth code.l t).l (nth zl.l t).pc).a) zt zj V V V (λw h=>(h.at 7 V)) (show 0<=(zo (nth code.l t).l (nth zl.l t).pc).a/\(zo (nth code.l t).l (nth zl.l t).pc).a<owner.l.length from zp)) V<|oG Xi (x6 (s:=owner) (i:=((zo (nth code.l t).l (nth zl.l t).pc).a).toNat) (v:= .int .i64 (nth owner.l (((zo (nth code.l t).l (nth zl.l t).pc).a).toNat))) zj V V V (λw h=>(h.at 7 V)) (show ((zo (nth code.l t).l (nth zl.l t).pc).a).toNat<owner.l.length from zp) (y5 V) V) V<|oG Xi (Jc (p:=nth owner.l (((zo (nth code.l t).l (nth zl.l t).pc).a).toNat)) (q:=0) V V V) V<|QV Xi V<|oM 1 V<|.nl)<|qN z51<|?_;clear Ri
   refine hK EK<|gF [4] V<|gR<|uB<|uT<|λa67 w67 AI=>zu (fn:=Tryz.f129) (t:=4) V AI V<|⟨?_,(AI.sh.zY [] V)⟩
   congr 1
   unfold Qw
   first|exact yP za|(refine yO za ?_;unfold q7;first|(rw [if_pos za];done)|(rw [if_neg za,if_pos za];done)|(rw [if_neg za,if_neg za,if_pos za];first|exact yP za|exact yO za (Q7 DA))|(rw [if_neg za,if_neg za,if_neg za]))
  refine vu (Zy 13 Xi V V<|Zx Xi V<|oM 1 V<|.nl)<|qN z51<|?_;clear Ri
  refine hK EK<|gF [4] V<|gR<|uB<|uT<|λa69 w69 h69=>zu (fn:=Tryz.f129) (t:=4) V h69 V<|⟨?_,(h69.sh.zY [] V)⟩
  congr 1
  unfold Qw
  first|exact yP za|(refine yO za ?_;unfold q7;first|(rw [if_pos za];done)|(rw [if_neg za,if_pos za];done)|(rw [if_neg za,if_neg za,if_pos za];first|exact yP za|exact yO za (Q7 DA))|(rw [if_neg za,if_neg za,if_neg za]))
 refine gS<|hK Re<|sG (oM 1 V<|.nl)<|gR<|λa71 w71 dU=>zu (fn:=Tryz.f129) (t:=4) V dU V<|⟨?_,(dU.sh.zY [] V)⟩
 congr 1
 unfold Qw
 first|exact yP za|(refine yO za ?_;unfold q7;first|(rw [if_pos za];done)|(rw [if_neg za,if_pos za];done)|(rw [if_neg za,if_neg za,if_pos za];first|exact yP za|exact yO za (Q7 DA))|(rw [if_neg za,if_neg za,if_neg za]))
theorem CX (M:Qy)(g gp:Nat)(code:Ls (Ls Ins))(zl:Ls jn)(words owner:Ls Int)(q:M.σ)(pw pv:Value)(zm z8:Int)(zq:Bool)(W:World)(hM:KA Tryz.prog 182 3 M)(hB:xB W g 173 #[.iface M.T (.pointer (some M.u)),.pointer (some ⟨gp,0,none⟩),zl.v,pv,.bool zq])(hP:xB W gp 25 #[code.v,pw,.int .i64 zm,.int .i64 z8])(wg:code.At W)(vM:zl.At W)(hR:ZK 182 M W words owner q)(BU:(M.qs q).length=code.l.length)(Dh:∀t,t<code.l.length->(nth (M.qs q) t).length<=3)(Zz:zl.l.length=code.l.length)(JZ:∀t,t<code.l.length->0<=(nth zl.l t).pc/\(nth zl.l t).pc<=(nth code.l t).l.length)(gv:∀t,t<code.l.length->∀i,i<(nth code.l t).l.length->(nth (nth code.l t).l i).op=17->0<=(nth (nth code.l t).l i).a/\(nth (nth code.l t).l i).a<owner.l.length)(Vs:∀v∈owner.l,-1<=v)(qg:code.l.length<=4):
    zP Tryz.prog 121 [.pointer (some ⟨g,0,none⟩)] W (λv w' =>∃s:Ls Mv,v=s.v/\s.l=Ym M.m code zl.l (M.qs q) owner.l code.l.length/\qM W w' [.own 179 s]):=by
 refine gen Tryz.func121 Tryz.ntmps121 (qM.ext (by intro A hA;simp only [z6,qd,or_false] at hA;rcases hA with rfl|rfl|rfl|rfl|rfl|rfl|rfl|rfl;exact hB;exact hP;exact wg;exact vM;exact hR.zM;exact hR.wa;exact hR.oa;exact (λA hA=>by obtain rfl:=List.mem_singleton.1 hA;exact hR.x)) (by intro A hA b hb;simp only [z6,qd,or_false] at hA;rcases hA with rfl|rfl|rfl|rfl|rfl|rfl|rfl|rfl<;>exact hb):Sh (λ_=>False) W W [.zx g 173 [.iface M.T (.pointer (some M.u)),.pointer (some ⟨gp,0,none⟩),zl.v,pv,.bool zq],.zx gp 25 [code.v,pw,.int .i64 zm,.int .i64 z8],.at_ code,.at_ zl,.zx M.g0 182 [words.v,owner.v],.at_ words,.at_ owner,.ro [M.X q]]) V λjP z7=>gG z7<|sG (oM 1 V<|.nl)<|sG (oM 1 V<|.nl)<|gK λ_ gu=>sK λ_ Xp=>y4 (aA 3 V) λB3=>zn (oM 1 V<|jA xM V<|w7 0 wb V V<|wk wL (aA 3 V) V<|oM 1 V<|.nl)<|nK Xp<|gB<|λHS Hx jc=>?_;clear z7
 have jk:=jc.nil (α:=Mv) 179
 clear jc
 refine qE (λm a w=>∃(t:Nat) (ml:List Mv) (vm:Value),(t<=zl.l.length)/\(ml=Ym M.m code zl.l (M.qs q) owner.l t)/\(ml.length<=4*t)/\St 43 (λ_=>False) W a w [(0,.pointer (some ⟨g,0,none⟩)),(3,vm),(11,.int .i64 ((zl.l.length:Nat):Int)),(12,.int .i64 ((t:Nat):Int))] [.zx g 173 [.iface M.T (.pointer (some M.u)),.pointer (some ⟨gp,0,none⟩),zl.v,pv,.bool zq],.zx gp 25 [code.v,pw,.int .i64 zm,.int .i64 z8],.at_ code,.at_ zl,.zx M.g0 182 [words.v,owner.v],.at_ words,.at_ owner,.ro [M.X q],.own 179 (⟨vm,ml⟩:Ls Mv)]/\m=zl.l.length-t) ⟨_,0,[],(.slice none 0 0),za,(V),(by simp),jk.wN ⟨V,V,V,V,trivial⟩ [1,2,3,4,5,6,7,8,0] V,V⟩ ?_
 clear jk
 rintro m16 BK Hy ⟨t,ml,vm,ht,U4,hmn,w9,HM⟩
 refine gG w9<|sG (xk _ _ V<|.nl)<|gK λ_ K7=>gcd V (λdc c6=>?_) λdc c6=>?_;clear w9
 ·skip
  refine gS<|hK K7<|gK λ_ J9=>gB<|sG (oM 2 V<|.nl)<|gK λ_ Ke=>sK λ_ Re=>zn (oM 2 V<|.nl)<|gC (λ_ _ h_=>gQ h_ Me V (rF M g gp code zl words owner q _ _ _ _ _ t _ hM (h_.sh.zx 0 V) (h_.sh.zx 1 V) (h_.sh.at 2 V) (h_.sh.at 3 V) ⟨h_.sh.zx 4 V,h_.sh.at 5 V,h_.sh.at 6 V,(h_.sh.ok _ (zy (i:=7) V)) _ (List.mem_singleton.2 V)⟩ BU Dh Zz JZ gv Vs za)) V<|?_
  rintro _ _ lX ⟨rfl,HI⟩
  refine dZ HI V<|gU<|nK Re<|?_;clear HI
  refine Xl V (λdb=>?_) λdb=>?_
  ·skip
   refine gL<|zn (oM 2 V<|oV (q8 (cs:= [.int .i64 ((t:Nat):Int),.int .i64 (-1)]) V V zb) V<|.nl)<|xb (λ_ _ h_=>qF (n:=1) (cs:= [.int .i64 ((t:Nat):Int),.int .i64 (-1)]) ([(⟨((t:Nat):Int),(-1)⟩:Mv)]:List Mv) h_ X9 Yi V V V zf V zb V (λq hq w h=>Flat.inner _ _) (λq hq b hb=>(Flat.on _ _ hb).elim) V V) V λv28=>xb (λ_ _ h_=>yu (r:=9) (rm:=0) (s:=(⟨vm,ml⟩:Ls Mv)) (m:=(⟨v28,[(⟨((t:Nat):Int),(-1)⟩:Mv)]⟩:Ls Mv)) h_ X9 Yi V V V V V V V (λw h=>(h.own 0 V)) (λb hb=>qt (h_.sh.ok _ (zy (i:=0) V)) hb) (λq hq b hb=>⟨q,hq,hb⟩) V V V inferInstance (show (ml.length+([(⟨((t:Nat):Int),(-1)⟩:Mv)]).length)*16<=140737488355328/\ml.length+([(⟨((t:Nat):Int),(-1)⟩:Mv)]).length<=140737488355328 from zp) V V) V λpY=>zn (oM 1 V<|.nl)<|nK Ke<|sK λ_ HH=>zn (oM 1 V<|jA yU V<|w7 1 kc V V<|oM 1 V<|.nl)<|gC (λ_ _ h_=>ZL h_ V V V V V (hM.ready _ words owner q t ⟨h_.sh.zx 5 V,h_.sh.at 6 V,h_.sh.at 7 V,(h_.sh.ok _ (zy (i:=8) V)) _ (List.mem_singleton.2 V)⟩ za (Dh t za))) V<|?_
   rintro _ _ dM ⟨rl,rfl,Wk,Dl⟩
   refine dZ Dl V<|gU<|y4 (aO 0 V) λzjh=>zn (wk zt (aO 0 V) V<|oM 1 V<|.nl)<|nK HH<|gB<|?_;clear Dl
   have Df:=Dh t za
   have hrn:rl.l.length<=3:=by rw [Wk,yw];exact vZ (bI _ _) (by simpa using Df)
   intro pz mu YA
   refine qE (λm a w=>∃(k:Nat) (ZQ:List Mv) (WA:Value),(k<=rl.l.length)/\(ZQ=ml++((if Qw code zl.l (M.qs q) owner.l t=true then [⟨(t:Int),-1⟩] else [])++(rl.l.take k).map (λx=>(⟨(t:Int),x⟩:Mv))))/\(ZQ.length<=4*t+1+k)/\St 43 (λ_=>False) W a w [(0,.pointer (some ⟨g,0,none⟩)),(3,WA),(4,.int .i64 ((t:Nat):Int)),(11,.int .i64 ((zl.l.length:Nat):Int)),(12,.int .i64 ((t:Nat):Int)),(28,rl.v),(29,.int .i64 ((rl.l.length:Nat):Int)),(30,.int .i64 ((k:Nat):Int))] [.own 3 rl,.own 179 (⟨v28,[(⟨((t:Nat):Int),(-1)⟩:Mv)]⟩:Ls Mv),.zx g 173 [.iface M.T (.pointer (some M.u)),.pointer (some ⟨gp,0,none⟩),zl.v,pv,.bool zq],.zx gp 25 [code.v,pw,.int .i64 zm,.int .i64 z8],.at_ code,.at_ zl,.zx M.g0 182 [words.v,owner.v],.at_ words,.at_ owner,.ro [M.X q],.own 179 (⟨WA,ZQ⟩:Ls Mv)]/\m=rl.l.length-k) ⟨_,0,ml++([(⟨((t:Nat):Int),(-1)⟩:Mv)]),pY,za,(by first|(rw [if_pos zc];simp)|(rw [if_neg (by rw [show Qw code zl.l (M.qs q) owner.l t=false from zc];decide)];simp)),(by simp;omega),YA.nf ⟨V,V,V,V,V,V,V,V,trivial⟩,V⟩ ?_
   clear YA
   rintro m33 a33 M9 ⟨k,ZQ,WA,hk,Yu,OJ,Vb,OM⟩
   refine gG Vb<|sG (xk _ _ V<|.nl)<|gK λ_ ia=>gcd V (λgw cV=>?_) λgw cV=>?_;clear Vb
   ·skip
    refine gS<|hK ia<|gK λ_ dP=>gB<|sG (jo zt zj (aO 0 V) _ zp V<|wx zj (aO 0 V) zp V<|oM 1 V<|.nl)<|gL<|zn (oM 3 V<|oV (q8 (cs:= [.int .i64 ((t:Nat):Int),.int .i64 (nth rl.l k)]) V V zb) V<|.nl)<|xb (λ_ _ h_=>qF (n:=1) (cs:= [.int .i64 ((t:Nat):Int),.int .i64 (nth rl.l k)]) ([(⟨((t:Nat):Int),nth rl.l k⟩:Mv)]:List Mv) h_ X9 Yi V V V zf V zb V (λq hq w h=>Flat.inner _ _) (λq hq b hb=>(Flat.on _ _ hb).elim) V V) V λv40=>xb (λ_ _ h_=>yu (r:=11) (rm:=0) (s:=(⟨WA,ZQ⟩:Ls Mv)) (m:=(⟨v40,[(⟨((t:Nat):Int),nth rl.l k⟩:Mv)]⟩:Ls Mv)) h_ X9 Yi V V V V V V V (λw h=>(h.own 0 V)) (λb hb=>qt (h_.sh.ok _ (zy (i:=0) V)) hb) (λq hq b hb=>⟨q,hq,hb⟩) V V V inferInstance (show (ZQ.length+([(⟨((t:Nat):Int),nth rl.l k⟩:Mv)]).length)*16<=140737488355328/\ZQ.length+([(⟨((t:Nat):Int),nth rl.l k⟩:Mv)]).length<=140737488355328 from zp) V V) V λv41=>zn (oM 1 V<|.nl)<|nK dP<|gL<|zn (yl _ 1 zp V<|oM 1 V<|.nl)<|nN<|λa42 w42 WM=>zH ⟨_,?_,k+1,ZQ++([(⟨((t:Nat):Int),nth rl.l k⟩:Mv)]),v41,?_,?_,?_,WM.wN ⟨V,V,V,V,V,V,V,V,trivial⟩ [1,2,3,4,5,6,7,8,9,10,11] V,V⟩
    · rw [OM];first|omega|(simp only [qf];omega)
    · omega
    · rw [zS _ _ za,yi,Yu];simp only [xi,xA,wY]
    · first|omega|(simp;omega)
   refine gX<|hK J9<|gL<|zn (yl _ 1 zp V<|oM 1 V<|.nl)<|nN<|λPQ MD J2=>zH ⟨_,?_,t+1,ZQ,WA,?_,?_,?_,J2.wN ⟨V,V,V,V,trivial⟩ [2,3,4,5,6,7,8,9,10] V,V⟩
   · rw [HM];first|omega|(simp only [qf];omega)
   · omega
   · rw [Vl,<-U4,rV Wk,Yu,QR za]
   · omega
  refine gS<|hK Ke<|sK λ_ nB=>zn (oM 1 V<|jA yU V<|w7 0 kc V V<|oM 1 V<|.nl)<|gC (λ_ _ h_=>ZL h_ V V V V V (hM.ready _ words owner q t ⟨h_.sh.zx 4 V,h_.sh.at 5 V,h_.sh.at 6 V,(h_.sh.ok _ (zy (i:=7) V)) _ (List.mem_singleton.2 V)⟩ za (Dh t za))) V<|?_
  rintro _ _ w45 ⟨rl,rfl,Wk,zhG⟩
  refine dZ zhG V<|gU<|y4 (aO 0 V) λzc3=>zn (wk zt (aO 0 V) V<|oM 1 V<|.nl)<|nK nB<|gB<|?_;clear zhG
  have Df:=Dh t za
  have hrn:rl.l.length<=3:=by rw [Wk,yw];exact vZ (bI _ _) (by simpa using Df)
  intro Ao tt Yy
  refine qE (λm a w=>∃(k:Nat) (ZQ:List Mv) (WA:Value),(k<=rl.l.length)/\(ZQ=ml++((if Qw code zl.l (M.qs q) owner.l t=true then [⟨(t:Int),-1⟩] else [])++(rl.l.take k).map (λx=>(⟨(t:Int),x⟩:Mv))))/\(ZQ.length<=4*t+1+k)/\St 43 (λ_=>False) W a w [(0,.pointer (some ⟨g,0,none⟩)),(3,WA),(4,.int .i64 ((t:Nat):Int)),(11,.int .i64 ((zl.l.length:Nat):Int)),(12,.int .i64 ((t:Nat):Int)),(28,rl.v),(29,.int .i64 ((rl.l.length:Nat):Int)),(30,.int .i64 ((k:Nat):Int))] [.own 3 rl,.zx g 173 [.iface M.T (.pointer (some M.u)),.pointer (some ⟨gp,0,none⟩),zl.v,pv,.bool zq],.zx gp 25 [code.v,pw,.int .i64 zm,.int .i64 z8],.at_ code,.at_ zl,.zx M.g0 182 [words.v,owner.v],.at_ words,.at_ owner,.ro [M.X q],.own 179 (⟨WA,ZQ⟩:Ls Mv)]/\m=rl.l.length-k) ⟨_,0,ml,vm,za,(by first|(rw [if_pos zc];simp)|(rw [if_neg (by rw [show Qw code zl.l (M.qs q) owner.l t=false from zc];decide)];simp)),(by simp;omega),Yy.nf ⟨V,V,V,V,V,V,V,V,trivial⟩,V⟩ ?_
  clear Yy
  rintro m47 PO M8 ⟨k,ZQ,WA,hk,Yu,OJ,Ws,zcY⟩
  refine gG Ws<|sG (xk _ _ V<|.nl)<|gK λ_ MJ=>gcd V (λWp zqv=>?_) λWp zqv=>?_;clear Ws
  ·skip
   refine gS<|hK MJ<|gK λ_ EI=>gB<|sG (jo zt zj (aO 0 V) _ zp V<|wx zj (aO 0 V) zp V<|oM 1 V<|.nl)<|gL<|zn (oM 3 V<|oV (q8 (cs:= [.int .i64 ((t:Nat):Int),.int .i64 (nth rl.l k)]) V V zb) V<|.nl)<|xb (λ_ _ h_=>qF (n:=1) (cs:= [.int .i64 ((t:Nat):Int),.int .i64 (nth rl.l k)]) ([(⟨((t:Nat):Int),nth rl.l k⟩:Mv)]:List Mv) h_ X9 Yi V V V zf V zb V (λq hq w h=>Flat.inner _ _) (λq hq b hb=>(Flat.on _ _ hb).elim) V V) V λv54=>xb (λ_ _ h_=>yu (r:=10) (rm:=0) (s:=(⟨WA,ZQ⟩:Ls Mv)) (m:=(⟨v54,[(⟨((t:Nat):Int),nth rl.l k⟩:Mv)]⟩:Ls Mv)) h_ X9 Yi V V V V V V V (λw h=>(h.own 0 V)) (λb hb=>qt (h_.sh.ok _ (zy (i:=0) V)) hb) (λq hq b hb=>⟨q,hq,hb⟩) V V V inferInstance (show (ZQ.length+([(⟨((t:Nat):Int),nth rl.l k⟩:Mv)]).length)*16<=140737488355328/\ZQ.length+([(⟨((t:Nat):Int),nth rl.l k⟩:Mv)]).length<=140737488355328 from zp) V V) V λv55=>zn (oM 1 V<|.nl)<|nK EI<|gL<|zn (yl _ 1 zp V<|oM 1 V<|.nl)<|nN<|λa56 P5 KE=>zH ⟨_,?_,k+1,ZQ++([(⟨((t:Nat):Int),nth rl.l k⟩:Mv)]),v55,?_,?_,?_,KE.wN ⟨V,V,V,V,V,V,V,V,trivial⟩ [1,2,3,4,5,6,7,8,9,10] V,V⟩
   · rw [zcY];first|omega|(simp only [qf];omega)
   · omega
   · rw [zS _ _ za,yi,Yu];simp only [xi,xA,wY]
   · first|omega|(simp;omega)
  refine gX<|hK J9<|gL<|zn (yl _ 1 zp V<|oM 1 V<|.nl)<|nN<|λa57 w57 DK=>zH ⟨_,?_,t+1,ZQ,WA,?_,?_,?_,DK.wN ⟨V,V,V,V,trivial⟩ [1,2,3,4,5,6,7,8,9] V,V⟩
  · rw [HM];first|omega|(simp only [qf];omega)
  · omega
  · rw [Vl,<-U4,rV Wk,Yu,QR za]
  · omega
 refine gX<|hK gu<|sG (oM 2 V<|.nl)<|gR<|λa59 w59 Rh=>zu (fn:=Tryz.f121) (t:=2) V Rh V<|⟨⟨vm,ml⟩,V,?_,(Rh.sh.zY [8] V)⟩
 rw [<-show t=code.l.length from za];exact U4
theorem C0 (M:Qy)(g gp:Nat)(code:Ls (Ls Ins))(zl:Ls jn)(words owner:Ls Int)(q:M.σ)(pw pv:Value)(zm z8:Int)(zq:Bool)(W:World)(hM:KA Tryz.prog 182 3 M)(hB:xB W g 173 #[.iface M.T (.pointer (some M.u)),.pointer (some ⟨gp,0,none⟩),zl.v,pv,.bool zq])(hP:xB W gp 25 #[code.v,pw,.int .i64 zm,.int .i64 z8])(wg:code.At W)(vM:zl.At W)(hR:ZK 182 M W words owner q)(BU:(M.qs q).length=code.l.length)(Dh:∀t,t<code.l.length->(nth (M.qs q) t).length<=3)(Zz:zl.l.length=code.l.length)(JZ:∀t,t<code.l.length->0<=(nth zl.l t).pc/\(nth zl.l t).pc<=(nth code.l t).l.length)(qg:code.l.length<=4):
    zP Tryz.prog 122 [.pointer (some ⟨g,0,none⟩)] W (λv w' =>v= .bool (Ks code zl.l (M.qs q))/\qM W w' []):=by
 refine gen Tryz.func122 Tryz.ntmps122 (qM.ext (by intro A hA;simp only [z6,qd,or_false] at hA;rcases hA with rfl|rfl|rfl|rfl|rfl|rfl|rfl|rfl;exact hB;exact hP;exact wg;exact vM;exact hR.zM;exact hR.wa;exact hR.oa;exact (λA hA=>by obtain rfl:=List.mem_singleton.1 hA;exact hR.x)) (by intro A hA b hb;simp only [z6,qd,or_false] at hA;rcases hA with rfl|rfl|rfl|rfl|rfl|rfl|rfl|rfl<;>exact hb):Sh (λ_=>False) W W [.zx g 173 [.iface M.T (.pointer (some M.u)),.pointer (some ⟨gp,0,none⟩),zl.v,pv,.bool zq],.zx gp 25 [code.v,pw,.int .i64 zm,.int .i64 z8],.at_ code,.at_ zl,.zx M.g0 182 [words.v,owner.v],.at_ words,.at_ owner,.ro [M.X q]]) V λjP z7=>gG z7<|sG (oM 1 V<|.nl)<|gK λ_ j1=>sK λ_ gu=>y4 (aA 3 V) λDv=>zn (oM 1 V<|jA xM V<|w7 0 wb V V<|wk wL (aA 3 V) V<|oM 1 V<|.nl)<|nK gu<|gB<|λBK Hy w9=>qE (λm a w=>∃(t:Nat),(t<=zl.l.length)/\(∀j,j<t->D4 code zl.l (M.qs q) j=true)/\St 31 (λ_=>False) W a w [(0,.pointer (some ⟨g,0,none⟩)),(10,.int .i64 ((zl.l.length:Nat):Int)),(11,.int .i64 ((t:Nat):Int))] [.zx g 173 [.iface M.T (.pointer (some M.u)),.pointer (some ⟨gp,0,none⟩),zl.v,pv,.bool zq],.zx gp 25 [code.v,pw,.int .i64 zm,.int .i64 z8],.at_ code,.at_ zl,.zx M.g0 182 [words.v,owner.v],.at_ words,.at_ owner,.ro [M.X q]]/\m=zl.l.length-t) ⟨_,0,za,(λj hj=>absurd hj za),w9.nf ⟨V,V,V,trivial⟩,V⟩ ?_;clear z7
 clear w9
 rintro m15 HT Hz ⟨t,ht,zO,xr,B2⟩
 refine gG xr<|sG (xk _ _ V<|.nl)<|gK λ_ JH=>gcd V (λZB Uv=>?_) λZB Uv=>?_;clear xr
 ·skip
  refine gS<|hK JH<|gK λ_ K7=>gB<|sG (oM 2 V<|.nl)<|?_
  have zh0:=JZ t za
  refine sK λ_ J9=>zn (oM 2 V<|.nl)<|λa24 dN wJ=>zL (zD wJ dH V V V V V (H5 M g gp code zl words owner q _ _ _ _ _ t _ hM (wJ.sh.zx 0 V) (wJ.sh.zx 1 V) (wJ.sh.at 2 V) (wJ.sh.at 3 V) ⟨wJ.sh.zx 4 V,wJ.sh.at 5 V,wJ.sh.at 6 V,(wJ.sh.ok _ (zy (i:=7) V)) _ (List.mem_singleton.2 V)⟩ za za za)) (zg V _) ?_
  rintro a25 tw ⟨_,⟨zpn,HJ⟩,DD⟩
  subst zpn
  have Wu:St 31 (λ_=>False) W a25 tw _ _:=⟨DD,wJ.sh.jv HJ⟩
  clear DD HJ
  clear wJ
  refine gG Wu<|zn (oM 1 V<|kK V<|kK V<|.nl)<|Q2 qG V λb26=>YK 0 qG V V V<|zn (oM 1 V<|.nl)<|nK J9<|sK λ_ K6=>zn (oM 2 V<|.nl)<|?_;clear Wu
  rcases G3 ((nth zl.l t).pc<((nth code.l t).l.length:Int)) with ⟨Wr,ob⟩|⟨Wr,ob⟩
  ·skip
   refine zn (Zy 7 Wr V V<|QV Wr V<|.nl)<|nK K6<|BJ V V<|sG (oM 1 V<|.nl)<|gF [2] V<|gR<|uB<|uT<|uT<|uB<|uT<|λa31 dM ZW=>zu (fn:=Tryz.f122) (t:=2) V ZW V<|⟨?_,(ZW.sh.zY [] V)⟩
   congr 1
   first|exact (D2 (λj hj=>zO j za)).symm|exact (D3 (t:=t) za (by first|exact .inl za|exact .inr za)).symm
  refine zn (oG Wr (zG V V) V<|oG Wr (jC V V) V<|oG Wr (zT (r:=0) yU V V V) V<|oG Wr (kh kc V V (λw h=>h.zx 1 V) V) V<|oG Wr (zG V V) V<|.nl)<|λa32 MF JJ=>zL (ZL JJ V V V V V (hM.waits _ words owner q t ⟨JJ.sh.zx 5 V,JJ.sh.at 6 V,JJ.sh.at 7 V,(JJ.sh.ok _ (zy (i:=8) V)) _ (List.mem_singleton.2 V)⟩ za (Dh t za))) (jx JJ.fr V V V V Wr) ?_
  rintro a33 M9 ⟨_,⟨rfl,Fb⟩,IN⟩
  have Vb:St 31 (λ_=>False) W a33 M9 _ _:=⟨IN,JJ.sh.jv Fb⟩
  clear IN Fb
  clear JJ
  refine gG Vb<|zn (oG Wr (Ub (p:=(nth (M.qs q) t).length) (q:=0) V V V) V<|Zx Wr V<|.nl)<|nK K6<|?_;clear Vb
  refine gcd V (λWq FF=>?_) λWq FF=>?_
  ·skip
   refine sG (oM 1 V<|.nl)<|gF [2] V<|gR<|uB<|uT<|uT<|uB<|uT<|λpy lV QJ=>zu (fn:=Tryz.f122) (t:=2) V QJ V<|⟨?_,(QJ.sh.zY [] V)⟩
   congr 1
   first|exact (D2 (λj hj=>zO j za)).symm|exact (D3 (t:=t) za (by first|exact .inl za|exact .inr za)).symm
  refine gS<|hK K7<|gL<|zn (yl _ 1 zp V<|oM 1 V<|.nl)<|nN<|λa37 w37 KF=>zH ⟨_,?_,t+1,?_,?_,KF.wN ⟨V,V,V,trivial⟩ [1,2,3,4,5,6,7,8] V,V⟩
  · rw [B2];first|omega|(simp only [qf];omega)
  · omega
  · intro j hj;rcases yq j t with h9|h9;(exact zO j h9);obtain rfl:j=t:=za;exact Po za za
 refine gX<|hK j1<|sG (oM 1 V<|.nl)<|gR<|λa39 pV QC=>zu (fn:=Tryz.f122) (t:=2) V QC V<|⟨?_,(QC.sh.zY [] V)⟩
 congr 1
 first|exact (D2 (λj hj=>zO j za)).symm|exact (D3 (t:=t) za (by first|exact .inl za|exact .inr za)).symm
theorem cw (b:Bool)(W:World):
    zP Tryz.prog 145 [.bool b] W (λv w' =>v= .int .i64 (bit b)/\qM W w' []):=by
 refine gen Tryz.func145 Tryz.ntmps145 (qM.start _:Sh (λ_=>False) W W []) V λjP z7=>gG z7<|sG (oM 1 V<|.nl)<|gK λ_ j1=>sG (oM 1 V<|.nl)<|?_;clear z7
 refine Xl V (λZo=>?_) λZo=>?_
 ·skip
  refine sG (oM 1 V<|.nl)<|gR<|uT<|λBK Hy w9=>zu (fn:=Tryz.f145) (t:=2) V w9 V<|⟨?_,(w9.sh.zY [] V)⟩
  first|(rw [show b=true from zc];rfl)|(rw [show b=false from zc];rfl)
 refine gS<|hK j1<|sG (oM 1 V<|.nl)<|gR<|λHS Hx jc=>zu (fn:=Tryz.f145) (t:=2) V jc V<|⟨?_,(jc.sh.zY [] V)⟩
 first|(rw [show b=true from zc];rfl)|(rw [show b=false from zc];rfl)
theorem CQ (M:Qy)(g gp:Nat)(code:Ls (Ls Ins))(zl:Ls jn)(words owner:Ls Int)(q:M.σ)(pw pv:Value)(zm z8:Int)(zq:Bool)(W:World)(hM:KA Tryz.prog 182 3 M)(hB:xB W g 173 #[.iface M.T (.pointer (some M.u)),.pointer (some ⟨gp,0,none⟩),zl.v,pv,.bool zq])(hP:xB W gp 25 #[code.v,pw,.int .i64 zm,.int .i64 z8])(wg:code.At W)(vM:zl.At W)(hR:ZK 182 M W words owner q)(aV:words.l.length<=100000):
    zP Tryz.prog 120 [.pointer (some ⟨g,0,none⟩)] W (λv w' =>∃s:Ls Int,v=s.v/\s.l=words.l/\qM W w' [.own 3 s]):=by
 refine gen Tryz.func120 Tryz.ntmps120 (qM.ext (by intro A hA;simp only [z6,qd,or_false] at hA;rcases hA with rfl|rfl|rfl|rfl|rfl|rfl|rfl|rfl;exact hB;exact hP;exact wg;exact vM;exact hR.zM;exact hR.wa;exact hR.oa;exact (λA hA=>by obtain rfl:=List.mem_singleton.1 hA;exact hR.x)) (by intro A hA b hb;simp only [z6,qd,or_false] at hA;rcases hA with rfl|rfl|rfl|rfl|rfl|rfl|rfl|rfl<;>exact hb):Sh (λ_=>False) W W [.zx g 173 [.iface M.T (.pointer (some M.u)),.pointer (some ⟨gp,0,none⟩),zl.v,pv,.bool zq],.zx gp 25 [code.v,pw,.int .i64 zm,.int .i64 z8],.at_ code,.at_ zl,.zx M.g0 182 [words.v,owner.v],.at_ words,.at_ owner,.ro [M.X q]]) V λjP z7=>gG z7<|sG (oM 1 V<|.nl)<|sK λ_ j1=>zn (oM 1 V<|jA yU V<|w7 0 kc V V<|.nl)<|gP (λ_ _ h_=>ZL h_ V V V V V (hM.base _ words owner q ⟨h_.sh.zx 4 V,h_.sh.at 5 V,h_.sh.at 6 V,(h_.sh.ok _ (zy (i:=7) V)) _ (List.mem_singleton.2 V)⟩)) V<|zn (jA kW V<|w7 4 zV V V<|.nl)<|gC (λ_ _ h_=>gQ h_ Hk V (Qv words _ (h_.sh.at 5 V) (by first|omega|(simp only [qf];omega)))) V<|?_;clear z7
 rintro _ _ BN ⟨Wi,rfl,Gg⟩
 refine dZ Gg V<|gU<|zn (oM 1 V<|.nl)<|nK j1<|gR<|λHT Hz xr=>?_;clear Gg
 refine zu (fn:=Tryz.f120) (t:=2) V xr V ?_
 exact ⟨⟨Wi.v,words.l⟩,V,V,(xr.sh.zY [0] V)⟩
theorem zbe {b:Bool}(h:b=true)(W:World):zP Tryz.prog 145 [.bool b] W (λv w' =>v= .int .i64 1/\qM W w' []):=by subst h;exact cw true W
theorem zbf {b:Bool}(h:b=false)(W:World):zP Tryz.prog 145 [.bool b] W (λv w' =>v= .int .i64 0/\qM W w' []):=by subst h;exact cw false W
def Ql (rows:List q6)(qs:List (List Wt))(words owner zd:List Int):yc:=⟨(List.range rows.length).map λt=>⟨(nth rows t).pc,(nth rows t).ze.l,nth qs t⟩,words,owner,zd⟩
section
variable {code:Ls (Ls Ins)}{zi:Ls Int}{Lk R:Nat}{m:Int}{rows:List q6}{qs:List (List Wt)}{words owner zd script:List Int}{nx k t:Nat}
theorem fS :(Ql rows qs words owner zd).zW.length=rows.length:=by simp [Ql]
theorem Ug {n i:Nat}(h:i<n):nth (List.range n) i=i:=by simp [nth,h]
theorem K1 (ht:t<rows.length):nth (Ql rows qs words owner zd).zW t=⟨(nth rows t).pc,(nth rows t).ze.l,nth qs t⟩:=by
 unfold Ql
 show nth ((List.range rows.length).map _) t=_
 rw [zI _ _ _ (by simpa using ht),Ug ht]
theorem V0 (ht:t<rows.length):(Ql rows qs words owner zd).view t=⟨(nth rows t).pc,(nth rows t).ze.l,nth qs t,words,owner,zd,false⟩:=by
 unfold yc.view
 rw [K1 ht]
 rfl
theorem QD (ht:t<rows.length):nth (rows.map q6.toQ) t=(nth rows t).toQ:=zI _ _ _ ht
theorem aM (hl:rows.length=code.l.length):Ym m code (rows.map q6.toQ) qs owner code.l.length=vF (ya code zi Lk R) m (Ql rows qs words owner zd):=by
 unfold Ym vF
 rw [x8]
 refine YB λt ht=>?_
 have Ut:t<code.l.length:=by simpa using ht
 rw [jj Ut,V0 za]
 unfold uo
 rw [QD za]
 rfl
theorem Aa (hl:rows.length=code.l.length):Ks code (rows.map q6.toQ) qs=ended (ya code zi Lk R) (Ql rows qs words owner zd):=by
 unfold Ks ended
 rw [x8]
 refine Ky λt ht=>?_
 have Ut:t<code.l.length:=by simpa using ht
 rw [jj Ut,K1 za]
 unfold D4
 rw [QD za]
 rfl
theorem Ef {x:q6}{y:TS}(ht:t<rows.length)(hq:t<qs.length)(e1:x.pc=y.pc)(e2:x.ze.l=y.ze):Ql (rows.set t x) (qs.set t y.wait) y.words y.owner y.zd=(Ql rows qs words owner zd).yt t y:=by
 have key:(Ql (rows.set t x) (qs.set t y.wait) y.words y.owner y.zd).zW=((Ql rows qs words owner zd).yt t y).zW:=by
  refine gi _ _ (by simp [Ql,yc.yt]) λi hi=>?_
  have wm:i<rows.length:=by simpa [Ql] using hi
  rw [K1 (by simpa using wm)]
  show _=nth ((Ql rows qs words owner zd).zW.set t ⟨y.pc,y.ze,y.wait⟩) i
  rw [yL,yL,yL,fS]
  by_cases e:t=i
  ·subst e
   rw [if_pos ⟨V,ht⟩,if_pos ⟨V,hq⟩,if_pos ⟨V,ht⟩,e1,e2]
  ·rw [if_neg (λh=>e h.1),if_neg (λh=>e h.1),if_neg (λh=>e h.1),K1 wm]
 show yc.mk _ _ _ _=yc.mk _ _ _ _
 have h2:((List.range (rows.set t x).length).map λu=>(⟨(nth (rows.set t x) u).pc,(nth (rows.set t x) u).ze.l,nth (qs.set t y.wait) u⟩:Th))=(Ql rows qs words owner zd).zW.set t ⟨y.pc,y.ze,y.wait⟩:=key
 rw [h2]
structure GoF (code:Ls (Ls Ins))(zi:Ls Int)(Lk R:Nat)(rows:List q6)(qs:List (List Wt))(words owner:List Int):Prop where
 rl:rows.length=code.l.length
 JZ:∀t,t<code.l.length->0<=(nth (rows.map q6.toQ) t).pc/\(nth (rows.map q6.toQ) t).pc<=(nth code.l t).l.length
 Dh:∀t,t<code.l.length->(nth qs t).length<=3
 gv:∀t,t<code.l.length->∀i,i<(nth code.l t).l.length->(nth (nth code.l t).l i).op=17->0<=(nth (nth code.l t).l i).a/\(nth (nth code.l t).l i).a<owner.length
 Vs:∀v∈owner,-1<=v
 ZU:words.length=zi.l.length
 Vr:owner.length=Lk
 Uu:∀t,t<code.l.length->(nth rows t).ze.l.length=R
 Df:∀t,t<code.l.length->∀j,j<(nth qs t).length->if (nth (nth qs t) j).lock=true then 0<=(nth (nth qs t) j).wh/\(nth (nth qs t) j).wh<owner.length else 0<=(nth (nth qs t) j).wh/\(nth (nth qs t) j).wh<words.length
 nH:∀t,t<code.l.length->∀x∈nth qs t,x.lock=true->x.qk=0
end
def dg (d:Nat):Nat:=if d<10 then 48+d else 87+d
def zaK (b:Nat):Nat:=if b<58 then b-48 else b-87
def Q6 (n:Nat):List Nat:=if h:n<36 then [dg n] else Q6 (n/36)++ [dg (n%36)]
termination_by n
decreasing_by omega
def kV (n:Int):List Nat:=if n<0 then 45::Q6 n.natAbs else Q6 n.natAbs
def vG (l:List Int):List Nat:=l.flatMap (λn=>kV n++ [32])++ [59]
def tC (l:List Nat):Nat:=l.foldl (λa b=>a*36+zaK b) 0
theorem GI {n:Nat}(h:n<36):Q6 n= [dg n]:=by rw [Q6,dif_pos h]
theorem Rs {n:Nat}(h:¬n<36):Q6 n=Q6 (n/36)++ [dg (n%36)]:=by rw [Q6,dif_neg h]
theorem p3 {d:Nat}(h:d<36):zaK (dg d)=d:=by
 unfold dg zaK
 split<;>split<;>omega
theorem VN (n:Nat):tC (Q6 n)=n:=by
 induction n using Nat.strongRecOn with
 |_ n ih=>
  by_cases h:n<36
  ·rw [GI h];simp [tC,p3 h]
  ·rw [Rs h]
   unfold tC
   rw [bD]
   have:=ih (n/36) za
   unfold tC at this
   rw [this]
   simp only [List.foldl_cons,List.foldl_nil]
   rw [p3 za]
   omega
theorem sX (n:Nat):Q6 n≠ []/\∀b∈Q6 n,b≠32/\b≠59/\b≠45/\b<128:=by
 induction n using Nat.strongRecOn with
 |_ n ih=>
  have hd:∀d,d<36->dg d≠32/\dg d≠59/\dg d≠45/\dg d<128:=by
   intro d hd
   unfold dg
   split<;>omega
  by_cases h:n<36
  ·rw [GI h]
   refine ⟨by simp,λb hb=>?_⟩
   obtain rfl:b=dg n:=by simpa using hb
   exact hd n h
  ·rw [Rs h]
   refine ⟨by simp,λb hb=>?_⟩
   rcases List.mem_append.1 hb with hb|hb
   ·exact (ih (n/36) za).2 b hb
   ·obtain rfl:b=dg (n%36):=by simpa using hb
    exact hd _ za
theorem Vj (n:Int):kV n≠ []/\∀b∈kV n,b≠32/\b≠59/\b<128:=by
 have h:=sX n.natAbs
 unfold kV
 split
 ·refine ⟨by simp,λb hb=>?_⟩
  rcases List.mem_cons.1 hb with rfl|hb
  ·decide
  ·exact ⟨(h.2 b hb).1,(h.2 b hb).2.1,(h.2 b hb).2.2.2⟩
 ·exact ⟨h.1,λb hb=>⟨(h.2 b hb).1,(h.2 b hb).2.1,(h.2 b hb).2.2.2⟩⟩
theorem ug {a b:Int}(h:kV a=kV b):a=b:=by
 unfold kV at h
 have Qo:∀n (l:List Nat),Q6 n=45::l->False:=λn l e=>by
  have:=(sX n).2 45 (by rw [e];simp)
  exact this.2.2.1 V
 split at h<;>split at h
 ·have:=congrArg tC (Y8 h).2
  rw [VN,VN] at this
  omega
 ·exact (Qo _ _ h.symm).elim
 ·exact (Qo _ _ h).elim
 ·have:=congrArg tC h
  rw [VN,VN] at this
  omega
theorem eX {z:Nat} :∀ {a b r r' :List Nat},(∀x∈a,x≠z)->(∀x∈b,x≠z)->a++z::r=b++z::r' ->a=b/\r=r'
 | [],[],r,r',_,_,h=>⟨V,(Y8 h).2⟩
 | [],y::b,r,r',_,h2,h=>((h2 y (by simp)) (Y8 h).1.symm).elim
 |x::a,[],r,r',h1,_,h=>((h1 x (by simp)) (Y8 h).1).elim
 |x::a,y::b,r,r',h1,h2,h=>by
  obtain ⟨e1,e2⟩:=Y8 h
  obtain ⟨e3,e4⟩:=eX (a:=a) (b:=b) (λq hq=>h1 q (by simp [hq])) (λq hq=>h2 q (by simp [hq])) e2
  exact ⟨by rw [e1,e3],e4⟩
theorem fm :∀ {l m:List Int} {r r' :List Nat},vG l++r=vG m++r' ->l=m/\r=r'
 | [],[],r,r',h=>⟨V,by simpa [vG] using h⟩
 | [],y::m,r,r',h=>by
  exfalso
  obtain ⟨h1,h2⟩:=Vj y
  obtain ⟨b,l,e⟩:=List.exists_cons_of_ne_nil h1
  have h3:=h2 b (by rw [e];simp)
  simp only [vG,JR,kF,e,JP,QQ,JO] at h
  exact h3.2.1 h.1.symm
 |x::l,[],r,r',h=>by
  exfalso
  obtain ⟨h1,h2⟩:=Vj x
  obtain ⟨b,l',e⟩:=List.exists_cons_of_ne_nil h1
  have h3:=h2 b (by rw [e];simp)
  simp only [vG,JR,kF,e,JP,QQ,JO] at h
  exact h3.2.1 h.1
 |x::l,y::m,r,r',h=>by
  have h' :kV x++32::(vG l++r)=kV y++32::(vG m++r'):=by simpa [vG,xi] using h
  obtain ⟨e1,e2⟩:=eX (λq hq=>((Vj x).2 q hq).1) (λq hq=>((Vj y).2 q hq).1) h'
  obtain ⟨e3,e4⟩:=fm e2
  exact ⟨by rw [ug e1,e3],e4⟩
theorem fZ :∀ {L M:List (List Int)},L.flatMap vG=M.flatMap vG->L=M
 | [],[],_=>rfl
 | [],y::M,h=>by simp [vG] at h
 |x::L,[],h=>by simp [vG] at h
 |x::L,y::M,h=>by
  simp only [kF] at h
  obtain ⟨e1,e2⟩:=fm h
  rw [e1,fZ e2]
theorem NB {l:List Int} :∀b∈vG l,b<128:=by
 intro b hb
 unfold vG at hb
 rcases List.mem_append.1 hb with hb|hb
 ·obtain ⟨n,_,hb⟩:=List.mem_flatMap.1 hb
  rcases List.mem_append.1 hb with hb|hb
  ·exact ((Vj n).2 b hb).2.2
  ·obtain rfl:b=32:=by simpa using hb
   decide
 ·obtain rfl:b=59:=by simpa using hb
  decide
def r6 (tq:List (List Wt)->List (List Int))(s:yc):List (List Int):=s.zW.flatMap (λt=> [[t.pc],t.ze])++([s.words,s.owner]++(tq (s.zW.map Th.wait)++ [s.zd]))
def BT (tq:List (List Wt)->List (List Int))(s:yc):List Nat:=(r6 tq s).flatMap vG
def Aq (tq:List (List Wt)->List (List Int))(Q:List (List Wt)->Prop):Prop:=∀q q' r r',Q q->Q q' ->q.length=q'.length->tq q++r=tq q' ++r' ->q=q' /\r=r'
theorem CW :∀ {l m:List Th} {r r' :List (List Int)},l.length=m.length->l.flatMap (λt=> [[t.pc],t.ze])++r=m.flatMap (λt=> [[t.pc],t.ze])++r' ->l.map (λt=>(t.pc,t.ze))=m.map (λt=>(t.pc,t.ze))/\r=r'
 | [],[],r,r',_,h=>⟨V,h⟩
 | [],_::_,_,_,hl,_=>by simp at hl
 |_::_,[],_,_,hl,_=>by simp at hl
 |x::l,y::m,r,r',hl,h=>by
  simp only [kF,xi,QQ,JP,JO] at h
  obtain ⟨⟨e1,_⟩,e2,h2⟩:=h
  obtain ⟨e3,e4⟩:=CW (by simpa using hl) h2
  exact ⟨by rw [xA,xA,e3,e1,e2],e4⟩
theorem p7 :∀ {l m:List Th},l.map (λt=>(t.pc,t.ze))=m.map (λt=>(t.pc,t.ze))->l.map Th.wait=m.map Th.wait->l=m
 | [],[],_,_=>rfl
 | [],_::_,h,_=>by simp at h
 |_::_,[],h,_=>by simp at h
 |x::l,y::m,h1,h2=>by
  simp only [xA,JO,qO] at h1 h2
  rw [p7 h1.2 h2.2]
  congr 1
  cases x;cases y
  simp only at h1 h2
  rw [h1.1.1,h1.1.2,h2.1]
theorem ux {p:Pg}{tq:List (List Wt)->List (List Int)}{Q:List (List Wt)->Prop}(ht:Aq tq Q){s s' :yc}(h:Wf p s)(h' :Wf p s')(hq:Q (s.zW.map Th.wait))(Vq:Q (s'.zW.map Th.wait))(e:BT tq s=BT tq s'):s=s' :=by
 have e:=fZ e
 unfold r6 at e
 have hl:s.zW.length=s'.zW.length:=by rw [h.zW,h'.zW]
 obtain ⟨e1,e2⟩:=CW hl e
 simp only [QQ,JP,JO] at e2
 obtain ⟨e3,e4,e5⟩:=e2
 obtain ⟨e6,e7⟩:=ht _ _ _ _ hq Vq (by simpa using hl) e5
 have e8:=p7 e1 e6
 cases s;cases s'
 simp only at e3 e4 e7 e8
 rw [e8,e3,e4]
 congr 1
 simpa using e7
theorem zaO :Aq (λ_=> []) (λq=>∀l∈q,l= []):=by
 intro q q' r r' h h' hl e
 refine ⟨?_,e⟩
 apply List.ext_getElem hl
 intro i h1 h2
 rw [h _ (WU h1),h' _ (WU h2)]
def Nk (q:List (List Wt)):List (List Int):=q.flatMap λl=>l.map Bw++ [[]]
theorem Cc :∀ {l l' :List Wt} {r r' :List (List Int)},l.map Bw++ []::r=l'.map Bw++ []::r' ->l=l' /\r=r'
 | [],[],r,r',h=>⟨V,(Y8 h).2⟩
 | [],y::l',r,r',h=>by simp [Bw] at h
 |x::l,[],r,r',h=>by simp [Bw] at h
 |x::l,y::l',r,r',h=>by
  obtain ⟨e1,e2⟩:=Y8 h
  obtain ⟨e3,e4⟩:=Cc e2
  refine ⟨?_,e4⟩
  rw [e3]
  congr 1
  unfold Bw at e1
  simp only [JO] at e1
  have gv:x.lock=y.lock:=by
   cases hx:x.lock<;>cases hy:y.lock<;>simp [hx,hy] at e1⊢
  cases x;cases y
  simp only at gv e1
  rw [gv,e1.2.1,e1.2.2.1]
theorem zaN :Aq Nk (λ_=>True):=by
 intro q
 induction q with
 |nil=>
  intro q' r r' _ _ hl e
  have:q' = []:=JW hl.symm
  subst this
  exact ⟨V,e⟩
 |cons l q ih=>
  intro q' r r' _ _ hl e
  rcases q' with _|⟨l',q'⟩
  ·simp at hl
  ·simp only [Nk,kF,xi,QQ,JP] at e
   obtain ⟨e1,e2⟩:=Cc e
   obtain ⟨e3,e4⟩:=ih q' r r' trivial trivial (by simpa using hl) e2
   exact ⟨by rw [e1,e3],e4⟩
instance : zz UInt8 where
 sz:=1
 cell x _:= .int .u8 (x.toNat:Int)
 whole x:= .int .u8 (x.toNat:Int)
 agg:=false
 inner _ _:=True
 on _ _:=False
 one _:=⟨V,λ_=>rfl⟩
 many h:=by cases h
 yB _ _ _ h _:=h
 lt _ _ _ _ h:=h.elim
instance : Flat UInt8:=⟨λ_ _ h=>h,λ_ _=>trivial⟩
instance : One UInt8:=⟨λx w _ q hq=>rfl⟩
def ZC (l:List Nat):List UInt8:=l.map UInt8.ofNat
theorem Qd (l m:List Nat):ZC (l++m)=ZC l++ZC m:=yi
theorem s8 :∀ {l m:List Nat},(∀b∈l,b<128)->(∀b∈m,b<128)->ZC l=ZC m->l=m
 | [],[],_,_,_=>rfl
 | [],_::_,_,_,h=>by simp [ZC] at h
 |_::_,[],_,_,h=>by simp [ZC] at h
 |x::l,y::m,h1,h2,h=>by
  simp only [ZC,xA,JO] at h
  have hx:=h1 x (by simp)
  have hy:=h2 y (by simp)
  have e:=congrArg UInt8.toNat h.1
  simp only [UInt8.toNat_ofNat'] at e
  rw [s8 (l:=l) (m:=m) (λb hb=>h1 b (by simp [hb])) (λb hb=>h2 b (by simp [hb])) h.2]
  congr 1
  omega
def JY (tq:List (List Wt)->List (List Int))(s:yc):ByteArray:=⟨(ZC (BT tq s)).toArray⟩
theorem r7 {tq:List (List Wt)->List (List Int)}{s:yc} :∀b∈BT tq s,b<128:=by
 intro b hb
 obtain ⟨l,_,hb⟩:=List.mem_flatMap.1 hb
 exact NB b hb
theorem EF {p:Pg}{tq:List (List Wt)->List (List Int)}{Q:List (List Wt)->Prop}(ht:Aq tq Q){s s' :yc}(h:Wf p s)(h' :Wf p s')(hq:Q (s.zW.map Th.wait))(Vq:Q (s'.zW.map Th.wait))(e:JY tq s=JY tq s'):s=s' :=by
 refine ux ht h h' hq Vq (s8 r7 r7 ?_)
 have e1:(ZC (BT tq s)).toArray=(ZC (BT tq s')).toArray:=congrArg ByteArray.data e
 simpa using e1
section
variable {K:Nat->Prop}{W w:World}{L:List zZ}
theorem Sh.frz {α:Type}[zz α](x:α)(A:List zZ)(h:Sh K W w (A++L))(hi:zz.inner x w)(ho:∀b,zz.on x b->∃B∈A,B.fp b\/B.rd b):Sh K W w (.Yd x::L):=by
 refine Sh.step (Lp:=A) (Lr:=L) (L' := [.Yd x]) h (j2.refl _ _) ?_ ?_ ?_ ?_ (WX _ _)
 ·intro B hB;obtain rfl:=List.mem_singleton.1 hB;exact hi
 ·intro B hB b hb;obtain rfl:=List.mem_singleton.1 hB;exact hb.elim
 ·intro B hB b hb;obtain rfl:=List.mem_singleton.1 hB;exact .inl (ho b hb)
 ·intro B hB b hb;obtain rfl:=List.mem_singleton.1 hB;exact hb.elim
end
structure gN where
 ι:Type
 mem:ι->Qy
 T:TypeId
 m:Int
 tq:List (List Wt)->List (List Int)
 Q:List (List Wt)->Prop
 i0:ι
 q0:(mem i0).σ
structure yz (F:gN) where
 gp:Nat
 i:F.ι
 q:(F.mem i).σ
 g:Nat
 vt:Value
 rows:List q6
 zd:Ls Int
 words:Ls Int
 owner:Ls Int
section
variable {F:gN}
instance : Inhabited (yz F):=⟨⟨0,F.i0,F.q0,0,.tuple #[],[],default,default,default⟩⟩
def yz.A (x:yz F):List zZ:=
  [.zM x.g 173 [.iface (F.mem x.i).T (.pointer (some (F.mem x.i).u)),.pointer (some ⟨x.gp,0,none⟩),x.vt,x.zd.v,.bool false],.own 189 (⟨x.vt,x.rows.map q6.toQ⟩:Ls jn),.x5 (kg 3 x.rows),.own 3 x.zd,
   .zM (F.mem x.i).g0 182 [x.words.v,x.owner.v],.own 3 x.words,.own 3 x.owner,(F.mem x.i).X x.q]
def yz.qs (x:yz F):List (List Wt):=(F.mem x.i).qs x.q
def yz.st (x:yz F):yc:=Ql x.rows x.qs x.words.l x.owner.l x.zd.l
instance : zz (yz F) where
 sz:=1
 cell x _:= .pointer (some ⟨x.g,0,none⟩)
 whole x:= .pointer (some ⟨x.g,0,none⟩)
 agg:=false
 inner x w:=∀A∈x.A,A.ok w
 on x b:=∃A∈x.A,A.fp b\/A.rd b
 one _:=⟨V,λ_=>rfl⟩
 many h:=by cases h
 yB x w w' h hb A hA:=A.yB w w' (h A hA) λb xl=>hb b ⟨A,hA,xl⟩
 lt x w h b hb:=by obtain ⟨A,hA,hb⟩:=hb;exact A.lt w (h A hA) b hb
instance : One (yz F):=⟨λ_ _ _ _ _=>rfl⟩
structure yz.Rd (x:yz F)(w:World):Prop where
 zM:xB w x.g 173 #[.iface (F.mem x.i).T (.pointer (some (F.mem x.i).u)),.pointer (some ⟨x.gp,0,none⟩),x.vt,x.zd.v,.bool false]
 zl:(⟨x.vt,x.rows.map q6.toQ⟩:Ls jn).At w
 row:∀r∈x.rows,r.ze.At w
 zd:x.zd.At w
 mem:ZK 182 (F.mem x.i) w x.words x.owner x.q
theorem yz.rd {x:yz F}{w:World}(h:zz.inner x w):x.Rd w:=by
 have h:∀A∈x.A,A.ok w:=h
 have a1:=h _ (zy (i:=0) V)
 have a2:=h _ (zy (i:=1) V)
 have a3:=h _ (zy (i:=2) V)
 have a4:=h _ (zy (i:=3) V)
 have a5:=h _ (zy (i:=4) V)
 have a6:=h _ (zy (i:=5) V)
 have a7:=h _ (zy (i:=6) V)
 have a8:=h _ (zy (i:=7) V)
 exact ⟨a1,vE a2,λr hr=>vE (a3.1 _ (List.mem_map.2 ⟨r,hr,V⟩)),vE a4,a5,vE a6,vE a7,a8⟩
theorem yz.frz {K:Nat->Prop}{W w:World}{L:List zZ}(hX:∀i q b,¬((F.mem i).X q).rd b)(x:yz F)(h:Sh K W w (x.A++L)):Sh K W w (.Yd x::L)/\∀b,zz.on x b->K b\/W.heap.size<=b:=by
 refine ⟨Sh.frz x x.A h (λA hA=>h.ok A (List.mem_append.2 (.inl hA))) λb hb=>hb,?_⟩
 rintro b ⟨A,hA,hb⟩
 rcases hb with hb|hb
 ·exact h.Zj A (List.mem_append.2 (.inl hA)) b hb
 ·exfalso
  simp only [yz.A,z6,qd,or_false] at hA
  rcases hA with rfl|rfl|rfl|rfl|rfl|rfl|rfl|rfl
  ·exact hb
  ·exact Flat.qh hb
  ·exact YT hb
  ·exact Flat.qh hb
  ·exact hb
  ·exact Flat.qh hb
  ·exact Flat.qh hb
  ·exact hX _ _ _ hb
theorem yz.Cs {x:yz F} :x.st.zW.length=x.rows.length:=fS
theorem ZN {code:Ls (Ls Ins)}{zi:Ls Int}{Lk R:Nat}{m:Int}(zR:yJ (ya code zi Lk R)){x:yz F}(hr:Go.Proofs.YtmjkobhkkjgplaaGreatDoor.Reach (ya code zi Lk R) m x.st)(hl:x.rows.length=code.l.length):GoF code zi Lk R x.rows x.qs x.words.l x.owner.l:=by
 have EY:=hr.wf zR
 have hw:x.words.l.length=zi.l.length:=EY.words
 have ho:x.owner.l.length=Lk:=by have:=EY.owner;simpa [ya,yH,Ql,yz.st] using this
 have hv:∀t,t<code.l.length->BL R zi.l.length Lk (nth code.l t).l.length ⟨(nth x.rows t).pc,(nth x.rows t).ze.l,nth x.qs t,x.words.l,x.owner.l,x.zd.l,false⟩:=by
  intro t ht
  have:=EY.th t (by rw [x8];exact ht)
  unfold yz.st at this
  rw [jj ht,V0 (by rw [hl];exact ht)] at this
  simpa [ya,yH] using this
 refine ⟨hl,λt ht=>?_,λt ht=>(hv t ht).wait,λt ht i hi jk=>?_,hr.C3,hw,ho,λt ht=>(hv t ht).ze,λt ht j hj=>?_,λt ht=>?_⟩
 ·rw [QD (by rw [hl];exact ht)]
  exact (hv t ht).pc
 ·rw [ho];exact Ey zR ht hi jk
 ·rw [ho,hw];exact (hv t ht).wt _ (qb _ _ hj)
 ·have h9:=hr.znp t
  unfold yz.st at h9
  rw [V0 (by rw [hl];exact ht)] at h9
  exact h9
end
def arI (P:Program)(T:TypeId):Option (Nat×TypeId):=match P.underlying T with
 |some (.array n e)=>some (n,e)
 |_=>none
theorem bB {P:Program}{T e:TypeId}{n:Nat}(h:arI P T=some (n,e)):P.underlying T=some (.array n e):=by
 unfold arI at h
 split at h
 ·rename_i hu;cases h;exact hu
 ·cases h
section
variable {P:Program}{o:Oper}{N:Nat}{K:Nat->Prop}{W w:World}{a:Act}{F:List (Nat×Value)}{L:List zZ}
theorem CO {T e:TypeId}{gg:Bool}{m xf:Nat}{z:List Value}{x y:Operand}{n g q:Nat}(hT:arI P T=some (n,e))(he:je P e=some (gg,m,xf,z))(hm:m=1)(ho:o.op= .indexAddr T x y)(hx:ev F x=some (.pointer (some ⟨g,0,none⟩)))(hy:ev F y=some (.int .i64 (q:Int)))(hq:q<n):Rn P o N K W F L (.pointer (some ⟨g,q,none⟩)):=λa w h=>by
 obtain ⟨i,d,zv,hi,hd,_,rfl,_⟩:=qR he
 have hu:=bB hT
 have WJ:P.elem T=e:=by simp [Program.elem,hu]
 have MQ:P.arrayLen T=n:=by simp [Program.arrayLen,hu]
 have dR:P.underlying T=some (.array (P.arrayLen T) (P.elem T)):=by rw [WJ,MQ];exact hu
 have e1:=run_indexAt_array (P:=P) (w:=w) T ⟨g,0,none⟩ .i64 (q:Int) dR
 rw [if_pos ⟨za,by rw [MQ];omega⟩,WJ,run_sizeOf hi,yQ,hm] at e1
 unfold execOp
 simp only [ho,h.fr.ev hx,h.fr.ev hy,qS,e1,yQ,q5]
 simp [wD]
end
structure RV where
 v:Value
instance : Inhabited RV:=⟨⟨.slice none 0 0⟩⟩
instance : zz RV where
 sz:=1
 cell x _:=x.v
 whole x:=x.v
 agg:=false
 inner _ _:=True
 on _ _:=False
 one _:=⟨V,λ_=>rfl⟩
 many h:=by cases h
 yB _ _ _ h _:=h
 lt _ _ _ _ h:=h.elim
instance : Flat RV:=⟨λ_ _ h=>h,λ_ _=>trivial⟩
section
variable {α:Type}
def Yc (M:List (Ls α)):List RV:=M.map λs=>⟨s.v⟩
def jU (R:Ls α->zZ)(E:TypeId)(v:Value)(M:List (Ls α)):List zZ:= .own E (⟨v,Yc M⟩:Ls RV)::M.map R
theorem xG (M:List (Ls α)):(Yc M).length=M.length:=yw _
theorem VW (M:List (Ls α))(i:Nat):(nth (Yc M) i).v=(nth M i).v:=by
 rcases yq i M.length with h|h
 ·rw [qq _ _ h,qq _ _ (show i<(Yc M).length by rw [xG];exact h)]
  simp [Yc]
 ·have h1:nth M i=default:=by simp [nth,List.getD,h]
  have h2:nth (Yc M) i=default:=by simp [nth,List.getD,xG,h]
  rw [h1,h2];rfl
theorem ri (M:List (Ls α))(i:Nat)(s:Ls α):(Yc M).set i ⟨s.v⟩=Yc (M.set i s):=by simp [Yc,List.map_set]
end
section
variable {α:Type}[zz α]
theorem Lz (M:List (Ls α)):qH (Yc M)=qH M:=by
 have:∀s:Ls α,cellsOf (⟨s.v⟩:RV)=cellsOf s:=λs=>rfl
 induction M with
 |nil=>rfl
 |cons s M ih=>
  have h1:qH (Yc (s::M))=cellsOf (⟨s.v⟩:RV)++qH (Yc M):=by simp [qH,Yc]
  have h2:qH (s::M)=cellsOf s++qH M:=by simp [qH]
  rw [h1,h2,ih,this]
end
section
variable {K:Nat->Prop}{W w:World}{L:List zZ}{α:Type}{R:Ls α->zZ}{E:TypeId}{v:Value}{M:List (Ls α)}
theorem Sh.QL (h:Sh K W w L)(i:Nat)(hi:L[i]? =some (.x5 (jU R E v M))):(⟨v,Yc M⟩:Ls RV).At w:=
 vE (E:=E) ((h.ok _ (zy hi)).1 _ (xx ..))
end
section
variable {P:Program}{o:Oper}{N:Nat}{K:Nat->Prop}{W w:World}{a:Act}{F:List (Nat×Value)}{L:List zZ}{α:Type}[zz α]{R:Ls α->zZ}{E IE:TypeId}{v:Value}{M:List (Ls α)}
theorem Sh.cG (h:Sh K W w L)(i:Nat)(hi:L[i]? =some (.x5 (jU (.own IE) E v M)))(j:Nat)(hj:j<M.length):(nth M j).At w:=
 vE (E:=IE) ((h.ok _ (zy hi)).1 _ (xe _ (List.mem_map.2 ⟨_,qb _ _ hj,V⟩)))
theorem Sh.zoj (n:Nat)(h:Sh K W w L):Sh K W w (List.replicate n (.own IE (⟨.slice none 0 0,[]⟩:Ls α))++L):=by
 induction n with
 |zero=>exact h
 |succ n ih=>rw [List.replicate_succ];exact ih.nil IE
theorem Sh.tail {A:zZ}(h:Sh K W w (A::L)):Sh K W w L:=
 ⟨h.J6,λB hB=>h.ok B (xe _ hB),λB hB=>h.Zj B (xe _ hB),λB hB=>h.self B (xe _ hB),(List.pairwise_cons.1 h.apart).2⟩
theorem Sh.Ss {n:Nat}(h:Sh K W w (.own E (⟨v,List.replicate n ⟨.slice none 0 0⟩⟩:Ls RV)::L)):Sh K W w (.x5 (jU (.own IE) E v (List.replicate n (⟨.slice none 0 0,[]⟩:Ls α)))::L):=by
 refine Sh.close ?_
 have h2:=(h.zoj (α:=α) (IE:=IE) n)
 have e:Yc (List.replicate n (⟨.slice none 0 0,[]⟩:Ls α))=List.replicate n ⟨.slice none 0 0⟩:=by simp [Yc]
 unfold jU
 rw [e,List.map_replicate]
 exact h2.perm List.perm_middle
theorem ah {d:Nat}{T e:TypeId}{gg:Bool}{xf n:Nat}{x y:Operand}(h:St N K W a w F L)(hT:QA P T=some e)(he:je P e=some (gg,1,xf,[.slice none 0 0]))(ho:o.op= .makeSlice T x y)(hx:ev F x=some (.int .i64 (n:Int)))(hy:ev F y=some (.int .i64 (n:Int)))
  (hn:xf*n<=140737488355328/\n<=140737488355328) (hd:o.dst=some d) (wz:Nat.blt d N=true) (IE:TypeId) (α:Type) [zz α]:
  Ex P o a w (λa' w' =>∃v:Value,St N K W a' w' ((d,v)::F) (.x5 (jU (.own IE) e v (List.replicate n (⟨.slice none 0 0,[]⟩:Ls α)))::L)):=
 (G4 (⟨.slice none 0 0⟩:RV) h hT he ho hx hy V V hn (λ_=>trivial) (λ_ h=>h) hd wz).mono λa' w' ⟨v,h⟩=>⟨v,h.fr,h.sh.Ss⟩
theorem MZ {T:TypeId}{gg:Bool}{xf i:Nat}{z:List Value}{x y:Operand}{s:Ls α}(h:St N K W a w F (.x5 (jU R E v M)::R s::L))(hT:je P T=some (gg,1,xf,z))(ho:o.op= .store T x y)(hd:o.dst=none)
  (hx:ev F x=some (.pointer (some (ja v 1 i 0)))) (hy:ev F y=some s.v) (hi:i<M.length) (hat:s.At w):
  Ex P o a w (λa' w' =>St N K W a' w' F (.x5 (jU R E v (M.set i s))::L)):=by
 have h1:St N K W a w F (.own E (⟨v,Yc M⟩:Ls RV)::(M.map R++(R s::L))):=⟨h.fr,h.sh.open_⟩
 refine (ei (s:=(⟨v,Yc M⟩:Ls RV)) (r:=0) (i:=i) (j:=0) (x' :=⟨s.v⟩) h1 hT ho hd hx V V (by rw [xG];exact hi) zf hy (y7 hat.one) hat.one (λq hq=>?_) (λ_ _=>trivial) (λb hb=>hb.elim)).mono λa' w' h2=>⟨h2.fr,?_⟩
 ·obtain rfl:q=0:=za
  rfl
 ·have h3:Sh K W w' (.own E (⟨v,Yc (M.set i s)⟩:Ls RV)::(M.map R++(R s::L))):=by
   rw [<-ri];exact h2.sh
  have h4:Sh K W w' (R M[i]::(.own E (⟨v,Yc (M.set i s)⟩:Ls RV)::((M.eraseIdx i).map R++(R s::L)))):=h3.perm (by
   refine List.Perm.trans ((List.Perm.append_right _ ((ki M i hi).map R)).cons _) ?_
   exact List.Perm.swap _ _ _)
  refine Sh.close (h4.tail.perm ?_)
  refine List.Perm.cons _ ?_
  refine List.perm_middle.trans ?_
  have:=((Zf s M i hi).map R).symm
  exact this.append_right L
theorem Sh.K4 (h:Sh K W w (.x5 (jU R E v M)::L))(hR:∀s w,(R s).ok w->s.At w/\∀b,s.on b->(R s).fp b):Sh K W w (.deep E (⟨v,M⟩:Ls (Ls α))::L):=by
 obtain ⟨zR,de,Dj⟩:=h.ok _ (xx ..)
 have h0:=zR _ (xx ..)
 obtain ⟨wP,hlen,_⟩:=h0
 have hm:∀i,i<M.length->R (nth M i)∈M.map R:=λi hi=>List.mem_map.2 ⟨_,qb _ _ hi,V⟩
 have hr:∀i,i<M.length->(nth M i).At w/\∀b,(nth M i).on b->(R (nth M i)).fp b:=λi hi=>hR _ w (zR _ (xe _ (hm i hi)))
 have h2:=h.put (i:=0) (A' := .deep E (⟨v,M⟩:Ls (Ls α))) V (j2.refl _ _) ⟨by
   rw [Lz] at wP
   have:(Yc M).length=M.length:=xG M
   simp only [this] at wP
   exact wP,by rw [<-xG];exact hlen,λi hi=>(hr i hi).1,λb hb ⟨i,hi,I2⟩=>?_⟩ (λb hb=> .inl ?_) (λb hb=>hb.elim) (λb _ hb=>hb)
 ·exact h2
 ·have:=(List.pairwise_cons.1 de).1 _ (hm i hi) b
  exact (this.1 hb).1 ((hr i hi).2 b I2)
 ·rcases hb with hb|⟨i,hi,hb⟩
  ·exact ⟨_,xx ..,hb⟩
  ·exact ⟨_,xe _ (hm i hi),(hr i hi).2 b hb⟩
theorem VU [Flat α](s:Ls α)(w:World)(h:(zZ.own E s).ok w):s.At w/\∀b,s.on b->(zZ.own E s).fp b:=⟨vE h,λb hb=>(qt h hb).elim id λh9=>Flat.qh h9⟩
end
section
variable {P:Program}{o:Oper}{N:Nat}{K:Nat->Prop}{W w:World}{a:Act}{F:List (Nat×Value)}{L:List zZ}
theorem Sh.front {i:Nat}{A:zZ}(h:Sh K W w L)(hi:L[i]? =some A):Sh K W w (A::L.eraseIdx i):=by
 obtain ⟨hl,he⟩:=List.getElem?_eq_some_iff.1 hi
 have:=ki L i hl
 rw [he] at this
 exact h.perm this
theorem Sh.pZ {i:Nat}{A A' :zZ}(h:Sh K W w (A' ::L.eraseIdx i))(hi:L[i]? =some A):Sh K W w (L.set i A'):=
 h.perm (Zf A' L i (List.getElem?_eq_some_iff.1 hi).1).symm
theorem mem_erase {i j:Nat}{B:zZ}(hj:L[j]? =some B)(Qo:Nat.beq i j=false):B∈L.eraseIdx i:=by
 have OF:i≠j:=by rintro rfl;simp at Qo
 rcases yq j i with h|h
 ·refine zy (i:=j) ?_
  rw [List.getElem?_eraseIdx,if_pos h];exact hj
 ·refine zy (i:=j-1) ?_
  rw [List.getElem?_eraseIdx,if_neg za]
  rw [show j-1+1=j from za];exact hj
section
variable {α:Type}[zz α]{E IE:TypeId}{v:Value}{M:List (Ls α)}
def XE (R:Ls α->zZ)(E:TypeId)(v:Value)(M:List (Ls α))(i:Nat):List zZ:= .own E (⟨v,Yc M⟩:Ls RV)::(M.eraseIdx i).map R
theorem ey [Flat α]{d:Nat}{T e:TypeId}{gg:Bool}{sz xf r rm i:Nat}{z:List Value}{x y:Operand}{m:Ls α}{B:zZ}(h:St N K W a w F L)(hT:QA P T=some e)(he:je P e=some (gg,sz,xf,z))(ho:o.op= .call ⟨.builtin .append, #[x,y], #[T,T]⟩)
  (hx:ev F x=some (nth M i).v) (hy:ev F y=some m.v) (hr:L[r]? =some (.x5 (jU (.own IE) E v M))) (hi:i<M.length) (hE:IE=e) (Ay:L[rm]? =some B) (Qo:Nat.beq r rm=false) (hat:∀w,Sh K W w L->m.At w) (Wl:∀b,m.on b->B.fp b\/B.rd b)
  (x3:zz.sz α=sz) (YM:Nat.blt 0 sz=true) (ER:z.length=sz) (h1:One α) (hn:((nth M i).l.length+m.l.length)*xf<=140737488355328/\(nth M i).l.length+m.l.length<=140737488355328) (hd:o.dst=some d) (wz:Nat.blt d N=true):
  Ex P o a w (λa' w' =>∃u:Value,St N K W a' w' ((d,u)::F) (.own IE ⟨u,(nth M i).l++m.l⟩::L.set r (.x5 (XE (.own IE) E v M i)))):=by
 have hB:=mem_erase Ay Qo
 have hp:(jU (.own IE) E v M++L.eraseIdx r).Perm (.own IE (nth M i)::(XE (.own IE) E v M i++L.eraseIdx r)):=by
  unfold jU XE
  rw [qq _ _ hi]
  refine List.Perm.trans ((List.Perm.append_right _ ((ki M i hi).map (zZ.own IE))).cons _) ?_
  exact List.Perm.swap _ _ _
 have Lg:Sh K W w (.own IE (nth M i)::(XE (.own IE) E v M i++L.eraseIdx r)):=(h.sh.front hr).open_.perm hp
 have back:∀w,Sh K W w (.own IE (nth M i)::(XE (.own IE) E v M i++L.eraseIdx r))->Sh K W w L:=λw h9=>by
  have h8:=((h9.perm hp.symm).close).pZ hr
  obtain ⟨hl,he⟩:=List.getElem?_eq_some_iff.1 hr
  rw [<-he,List.set_getElem_self] at h8
  exact h8
 obtain ⟨rm2,zpS⟩:=kG hB
 have zrv:(zZ.own IE (nth M i)::(XE (.own IE) E v M i++L.eraseIdx r))[(XE (.own IE) E v M i).length+rm2+1]? =some B:=by
  rw [JT,List.getElem?_append_right za]
  simpa using zpS
 refine (yu (r:=0) (s:=nth M i) ⟨h.fr,Lg⟩ hT he ho hx hy V hE zrv V (λw h9=>hat w (back w h9)) Wl (λq hq b hb=>(Flat.on _ _ hb).elim) x3 YM ER h1 hn hd wz).mono λa' w' ⟨u,h2⟩=>⟨u,h2.fr,?_⟩
 have h3:Sh K W w' (.own IE ⟨u,(nth M i).l++m.l⟩::(XE (.own IE) E v M i++L.eraseIdx r)):=h2.sh
 have h4:Sh K W w' (XE (.own IE) E v M i++(.own IE ⟨u,(nth M i).l++m.l⟩::L.eraseIdx r)):=h3.perm List.perm_middle.symm
 have h5:=h4.close.perm (List.Perm.swap _ _ _)
 have h6:Sh K W w' (.x5 (XE (.own IE) E v M i)::(.own IE ⟨u,(nth M i).l++m.l⟩::L.eraseIdx r)):=h5.perm (List.Perm.swap _ _ _)
 refine h6.perm ?_
 refine (List.Perm.swap _ _ _).trans (List.Perm.cons _ ?_)
 exact (Zf _ L r (List.getElem?_eq_some_iff.1 hr).1).symm
theorem ej {T:TypeId}{gg:Bool}{xf i r:Nat}{z:List Value}{x y:Operand}{s:Ls α}{R:Ls α->zZ}(h:St N K W a w F (R s::L))(hT:je P T=some (gg,1,xf,z))(ho:o.op= .store T x y)(hd:o.dst=none)
  (hx:ev F x=some (.pointer (some (ja v 1 i 0)))) (hy:ev F y=some s.v) (hr:L[r]? =some (.x5 (XE R E v M i))) (hi:i<M.length) (hat:s.At w):
  Ex P o a w (λa' w' =>St N K W a' w' F (L.set r (.x5 (jU R E v (M.set i s))))):=by
 have h0:Sh K W w (.x5 (XE R E v M i)::(R s::L.eraseIdx r)):=(h.sh.front (i:=r+1) (by rw [JT];exact hr)).perm (by simp)
 have h1:St N K W a w F (.own E (⟨v,Yc M⟩:Ls RV)::((M.eraseIdx i).map R++(R s::L.eraseIdx r))):=⟨h.fr,h0.open_⟩
 refine (ei (s:=(⟨v,Yc M⟩:Ls RV)) (r:=0) (i:=i) (j:=0) (x' :=⟨s.v⟩) h1 hT ho hd hx V V (by rw [xG];exact hi) zf hy (y7 hat.one) hat.one (λq hq=>?_) (λ_ _=>trivial) (λb hb=>hb.elim)).mono λa' w' h2=>⟨h2.fr,?_⟩
 ·obtain rfl:q=0:=za
  rfl
 ·have h3:Sh K W w' (.own E (⟨v,Yc (M.set i s)⟩:Ls RV)::((M.eraseIdx i).map R++(R s::L.eraseIdx r))):=by
   rw [<-ri];exact h2.sh
  have h4:Sh K W w' (.x5 (jU R E v (M.set i s))::L.eraseIdx r):=by
   refine Sh.close (h3.perm (List.Perm.cons _ ?_))
   refine List.perm_middle.trans ?_
   have:=((Zf s M i hi).map R).symm
   exact this.append_right _
  exact h4.pZ hr
end
end
instance : DecidableEq ByteArray:=λa b=>decidable_of_iff (a.data=b.data) ⟨λh=>by cases a;cases b;simp only at h;rw [h],λh=>by rw [h]⟩
def U0 (l:List ByteArray):List (Value×Value):=l.map λs=>(.string s,.bool true)
def JA (w:World)(g:Nat)(l:List ByteArray):Prop:=∃es clock,w.heap[g]? =some (.map es clock)/\Z0 es=U0 l
theorem JA.Yl {w w' :World}{g:Nat}{l:List ByteArray}(h:JA w g l)(hb:w'.heap[g]? =w.heap[g]?):JA w' g l:=by
 obtain ⟨es,c,h1,h2⟩:=h
 exact ⟨es,c,hb.trans h1,h2⟩
theorem JA.lt {w:World}{g:Nat}{l:List ByteArray}(h:JA w g l):g<w.heap.size:=by
 obtain ⟨es,c,h1,_⟩:=h
 exact (Array.getElem?_eq_some_iff.1 h1).1
def zZ.KN (g:Nat)(l:List ByteArray):zZ where
 fp b:=g=b
 rd _:=False
 ok w:=JA w g l
 yB w w' h hb:=h.Yl (hb g (.inl V))
 lt w h b hb:=by
  rcases hb with rfl|hb
  ·exact h.lt
  ·exact hb.elim
theorem dF (a b:ByteArray):(a==b)=decide (a=b):=by
 obtain ⟨x⟩:=a
 obtain ⟨y⟩:=b
 show (x==y)=_
 by_cases h:x=y
 ·subst h;simp
 ·have h2:(⟨x⟩:ByteArray)≠⟨y⟩:=λe=>h (congrArg ByteArray.data e)
  rw [decide_eq_false h2]
  simpa using h
instance : LawfulBEq ByteArray where
 eq_of_beq h:=by rw [dF] at h;exact of_decide_eq_true h
 rfl {a} :=by rw [dF];exact decide_eq_true V
def atS (k:ByteArray):List ByteArray->Nat->Option (Nat×Value)
 | [],_=>none
 |j::r,i=>if k=j then some (i,.bool true) else atS k r (i+1)
theorem Bg (k:ByteArray):∀(l:List ByteArray) (i:Nat),(∃j,atS k l i=some (i+j,.bool true)/\l[j]? =some k)\/(atS k l i=none/\k∉l)
 | [],i=> .inr ⟨V,by simp⟩
 |x::r,i=>by
  unfold atS
  by_cases h:k=x
  ·subst h;exact .inl ⟨0,by rw [if_pos V];rfl,V⟩
  ·rw [if_neg h]
   rcases Bg k r (i+1) with ⟨j,h1,h2⟩|⟨h1,h2⟩
   ·exact .inl ⟨j+1,by rw [h1,show i+1+j=i+(j+1) from za],by simpa using h2⟩
   ·exact .inr ⟨h1,by simp [h,h2]⟩
theorem U9 (k:ByteArray):∀(es:List MapEntry) (l:List ByteArray) (i:Nat),(es.map λe=>(e.key,e.val))=U0 l->Instr.findNow .string (.string k) es i=some (atS k l i)
 | [],[],_,_=>rfl
 | [],_::_,_,h=>by simp [U0] at h
 |_::_,[],_,h=>by simp [U0] at h
 |e::es,j::l,i,h=>by
  simp only [U0,xA,JO,qO] at h
  obtain ⟨⟨hk,hv⟩,hr⟩:=h
  have ih:=U9 k es l (i+1) hr
  simp only [Instr.findNow,hk,Instr.sameNow]
  unfold atS
  rw [dF]
  by_cases MP:k=j
  ·simp [MP,hv]
  ·simp [MP,ih]
structure Jz (P:Program)(T kT eT:TypeId):Prop where
 map:P.underlying T=some (.map kT eT)
 str:P.underlying kT=some .string
 zero:∀w,(zeroValue eT).run P w= .ok (.bool false) w
section
variable {P:Program}{o:Oper}{N:Nat}{K:Nat->Prop}{W w:World}{a:Act}{F:List (Nat×Value)}{L:List zZ}{T kT eT:TypeId}{l:List ByteArray}{k:ByteArray}{g:Nat}
theorem JF (hK:P.underlying kT=some .string){es:Array MapEntry}(h:Z0 es=U0 l):(Instr.findKey kT (.string k) es.toList).run P w= .ok (atS k l 0) w:=by
 simp [Instr.findKey,run_underlying hK,U9 k es.toList l 0 h]
theorem Xv (b:Bool)(n:Nat)(hK:P.underlying kT=some .string):(Instr.checkKey b (n+1) kT (.string k)).run P w= .ok () w:=by
 simp [Instr.checkKey,run_underlying hK]
theorem fg (hT:Jz P T kT eT)(h:JA w g l):(Instr.lookup T (.map (some g)) (.string k) false).run P w= .ok (.bool (decide (k∈l))) w:=by
 obtain ⟨es,c,h1,h2⟩:=h
 have e0:(getObj g).run P w= .ok (.map es c) w:=by simp [getObj,Sem.run,h1]
 have e1:=JF (P:=P) (w:=w) (k:=k) hT.str h2
 have e2:=Xv (P:=P) (w:=w) (k:=k) es.isEmpty 9999 hT.str
 rcases Bg k l 0 with ⟨j,h3,h4⟩|⟨h3,h4⟩
 ·rw [decide_eq_true (zy h4)]
  rw [h3] at e1
  simp [Instr.lookup,run_underlying hT.map,e0,e1,e2]
 ·rw [decide_eq_false h4]
  rw [h3] at e1
  simp [Instr.lookup,run_underlying hT.map,e0,e1,e2,hT.zero]
theorem tR {x y:Operand}{i:Nat}(hT:Jz P T kT eT)(ho:o.op= .lookup T x y false)(hx:ev F x=some (.map (some g)))(hy:ev F y=some (.string k))(hi:L[i]? =some (.KN g l)):Rn P o N K W F L (.bool (decide (k∈l))):=λa w h=>by
 have key:=fg (k:=k) hT (h.sh.ok _ (zy hi))
 unfold execOp
 simp only [ho,h.fr.ev hx,h.fr.ev hy,qS,key,yQ,q5]
theorem tn {d:Nat}(h:St N K W a w F L)(ho:o.op= .makeMap T none)(hd:o.dst=some d)(wz:Nat.blt d N=true):Ex P o a w (λa' w' =>∃g:Nat,St N K W a' w' ((d,.map (some g))::F) (.KN g []::L)):=by
 have yN:(Instr.makeMap T none).run P w= .ok (.map (some w.heap.size)) (w.alloc (.map #[] 0)):=run_makeMap T w
 refine Ex.j8 (v:= .map (some w.heap.size)) (w' :=w.alloc (.map #[] 0)) ?_ ⟨w.heap.size,?_⟩
 ·unfold execOp
  simp only [ho,GR,qS,yN,yQ,q5]
 ·rw [hd]
  have h1:Sh K W (w.alloc (.map #[] 0)) (.KN w.heap.size []::L):=
   h.sh.push (j2.alloc _ w _) ⟨#[],0,Go.heap_alloc_new w _,V⟩ (λb hb=>by rw [<-(show w.heap.size=b from hb)];exact qC _) (λb hb=>hb.elim) (λb _ hb=>hb)
  exact ⟨h.fr.put d (by simpa [yV] using wz) _,h1⟩
theorem ag {x y z:Operand}{i:Nat}(h:St N K W a w F L)(hT:Jz P T kT eT)(ho:o.op= .mapUpdate T x y z\/o.op= .insert T x y z)(hd:o.dst=none)(hx:ev F x=some (.map (some g)))(hy:ev F y=some (.string k))(hz:ev F z=some (.bool true))(hi:L[i]? =some (.KN g l))(hk:k∉l):
  Ex P o a w (λa' w' =>St N K W a' w' F (L.set i (.KN g (l++ [k])))):=by
 obtain ⟨es,c,h1,h2⟩:JA w g l:=h.sh.ok _ (zy hi)
 have qU:g<w.heap.size:=(Array.getElem?_eq_some_iff.1 h1).1
 have e0:(getObj g).run P w= .ok (.map es c) w:=by simp [getObj,Sem.run,h1]
 have e1:=JF (P:=P) (w:=w) (k:=k) hT.str h2
 have e2:=Xv (P:=P) (w:=w) (k:=k) false 9999 hT.str
 have e3:atS k l 0=none:=by
  rcases Bg k l 0 with ⟨j,_,h4⟩|⟨h3,_⟩
  ·exact absurd (zy h4) hk
  ·exact h3
 rw [e3] at e1
 have yN:(Instr.mapUpdate T (.map (some g)) (.string k) (.bool true)).run P w= .ok () (World.ji w g (es.push { key:= .string k,val:= .bool true,born:=c }) (c+1)):=by
  simp [Instr.mapUpdate,run_underlying hT.map,e0,e1,e2,setObj,Sem.run,h1,World.ji]
 refine Ex.VV (w' :=World.ji w g (es.push { key:= .string k,val:= .bool true,born:=c }) (c+1)) ?_ ?_
 ·unfold execOp
  rcases ho with ho|ho<;>simp only [ho,h.fr.ev hx,h.fr.ev hy,h.fr.ev hz,qS,yN,yQ,q5]
 ·rw [hd]
  have hg:w.grownBy (World.ji w g (es.push { key:= .string k,val:= .bool true,born:=c }) (c+1)) (some g):=⟨V,V,V,by simp [World.ji],λj hj Qo=>by
   have:g≠j:=λe=>Qo (by rw [e])
   simp [World.ji,wG,this]⟩
  refine ⟨h.fr,h.sh.put hi (j2.grown hg (λb hb=>qA hb)) ⟨es.push { key:= .string k,val:= .bool true,born:=c },c+1,by simp [World.ji,qU],?_⟩ (λb hb=> .inl hb) (λb hb=>hb.elim) (λb _ hb=>hb)⟩
  simp [Z0,U0] at h2⊢
  exact h2
theorem AN {x y z:Operand}{i:Nat}(h:St N K W a w F L)(hT:Jz P T kT eT)(ho:o.op= .mapUpdate T x y z)(hd:o.dst=none)(hx:ev F x=some (.map (some g)))(hy:ev F y=some (.string k))(hz:ev F z=some (.bool true))(hi:L[i]? =some (.KN g l))(hk:k∉l):
 Ex P o a w (λa' w' =>St N K W a' w' F (L.set i (.KN g (l++ [k])))):=ag h hT (.inl ho) hd hx hy hz hi hk
theorem tk {x y z:Operand}{i:Nat}(h:St N K W a w F L)(hT:Jz P T kT eT)(ho:o.op= .insert T x y z)(hd:o.dst=none)(hx:ev F x=some (.map (some g)))(hy:ev F y=some (.string k))(hz:ev F z=some (.bool true))(hi:L[i]? =some (.KN g l))(hk:k∉l):
 Ex P o a w (λa' w' =>St N K W a' w' F (L.set i (.KN g (l++ [k])))):=ag h hT (.inr ho) hd hx hy hz hi hk
theorem tS {x:Operand}{i:Nat}(hT:Jz P T kT eT)(ho:o.op= .call ⟨.builtin .len, #[x], #[T]⟩)(hx:ev F x=some (.map (some g)))(hi:L[i]? =some (.KN g l)):Rn P o N K W F L (.int .i64 ((l.length:Nat):Int)):=λa w h=>by
 obtain ⟨es,c,h1,h2⟩:JA w g l:=h.sh.ok _ (zy hi)
 have hl:es.size=l.length:=by
  have:=congrArg List.length h2
  simpa [Z0,U0] using this
 have e0:(getObj g).run P w= .ok (.map es c) w:=by simp [getObj,Sem.run,h1]
 have key:∀ty,(Builtin.len_ #[T] ty #[.map (some g)]).run P w= .ok (.int .i64 ((l.length:Nat):Int)) w:=λty=>by
  simp [Builtin.len_,run_underlying hT.map,goInt,e0,hl]
 unfold execOp
 simp [ho,resolve,invoke,builtin,h.fr.ev hx,key]
end
def bv (x:UInt8):Value:= .int .u8 (x.toNat:Int)
theorem zbp {l:List UInt8}{q:Nat}(h:q<l.length):(l.map bv)[q]? =some (bv (nth l q)):=by
 rw [Ht,QS h,qq _ _ h];rfl
theorem tJ {l:List UInt8}{q:Nat}{n:UInt8}(h:q<l.length):kf (l.map bv) q [bv n]=(l.set q n).map bv:=by
 unfold kf
 rw [List.set_eq_take_append_cons_drop,if_pos h]
 simp
section
variable {P:Program}{o:Oper}{N:Nat}{K:Nat->Prop}{W w:World}{a:Act}{F:List (Nat×Value)}{L:List zZ}
theorem tp {d:Nat}{T:TypeId}{g:Bool}{n xf k:Nat}{z:List Value}(h:St N K W a w F L)(hT:je P T=some (g,n,xf,z))(hz:z=(List.replicate k 0).map bv)(ho:o.op= .alloc T)(hd:o.dst=some d)(wz:Nat.blt d N=true):
  Ex P o a w (λa' w' =>∃b:Nat,St N K W a' w' ((d,.pointer (some ⟨b,0,none⟩))::F) (.zM b T ((List.replicate k 0).map bv)::L)):=by
 subst hz;exact pP h hT ho hd wz
theorem AP {T:TypeId}{gg:Bool}{xf:Nat}{z:List Value}{x y:Operand}{g q i:Nat}{n:UInt8}{E:TypeId}{l:List UInt8}(h:St N K W a w F L)(hT:je P T=some (gg,1,xf,z))(ho:o.op= .store T x y)(hd:o.dst=none)
  (hx:ev F x=some (.pointer (some ⟨g,q,none⟩))) (hy:ev F y=some (.int .u8 (n.toNat:Int))) (hi:L[i]? =some (.zM g E (l.map bv))) (hq:q<l.length):
  Ex P o a w (λa' w' =>St N K W a' w' F (L.set i (.zM g E ((l.set q n).map bv)))):=
 j3 h hT ho hd hx hy hi (vs:= [bv n]) V V V (by rw [yw];omega) (tJ hq)
def pk (g q n:Nat):Value:= .slice (some ⟨g,q,none⟩) (n-q) (n-q)
theorem za1 {T e:TypeId}{n m xf q g:Nat}{gg:Bool}{z:List Value}{x y:Operand}(hT:arI P T=some (n,e))(he:je P e=some (gg,m,xf,z))(hm:m=1)(ho:o.op= .slice T x (some y) none none)
  (hx:ev F x=some (.pointer (some ⟨g,0,none⟩))) (hy:ev F y=some (.int .i64 (q:Int))) (hq:q<n):Rn P o N K W F L (pk g q n):=λa w h=>by
 subst hm
 obtain ⟨ti,d,zv,hi,hd,_,hs,_⟩:=qR he
 have hu:=bB hT
 have WJ:P.elem T=e:=by simp [Program.elem,hu]
 have MQ:P.arrayLen T=n:=by simp [Program.arrayLen,hu]
 have dR:P.underlying T=some (.array (P.arrayLen T) (P.elem T)):=by rw [WJ,MQ];exact hu
 have e2:=run_sliceAt_array_l (P:=P) w T ⟨g,0,none⟩ dR .i64 (q:Int) za (by rw [MQ];omega)
 have hs1:ti.size=1:=by first|exact hs|exact hs.symm
 rw [WJ,run_sizeOf hi,yQ,MQ,hs1] at e2
 unfold execOp
 simp only [ho,h.fr.ev hx,h.fr.ev hy,ZJ,GR,qS,e2,yQ,q5,slicedAt,pk]
 simp only [UL]
 rw [if_neg za]
 simp [Addr.add]
 try omega
theorem zeE {g q n i:Nat}{E:TypeId}{l:List UInt8}(h:Sh K W w L)(hi:L[i]? =some (.zM g E (l.map bv)))(hl:l.length=n)(hq:q<=n)(hn:n<=1000):(⟨pk g q n,l.drop q⟩:Ls UInt8).At w:=by
 have hb:xB w g E (l.map bv).toArray:=h.ok _ (zy hi)
 refine ⟨some ⟨g,q,none⟩,n-q,?_,?_,?_,?_,?_,?_,?_,?_⟩
 ·show pk g q n= .slice _ (l.drop q).length _
  unfold pk
  rw [v7,hl]
 ·show (l.drop q).length<=n-q
  rw [v7,hl]
  exact qC _
 ·show n-q<=maxLen
  have:(1000:Nat)<=maxLen:=zf
  omega
 ·show (l.drop q).length<=_
  rw [v7,hl];omega
 ·intro _;exact ⟨_,V,V⟩
 ·intro _;exact hb.lt
 ·intro i' j wm hj
  have Dy:i' <(l.drop q).length:=wm
  rw [v7] at Dy
  have hj0:j=0:=by have:zz.sz UInt8=1:=rfl;omega
  subst hj0
  have e:(nth (l.drop q) i')=nth l (q+i'):=by simp [nth,List.getD,GS]
  show w.cell? ⟨g,q+i' *1+0,none⟩=some (bv (nth (l.drop q) i'))
  rw [e,Nat.mul_one,Kz]
  exact (hb.cell (q+i')).trans (by simpa using zbp za)
 ·intro i' _;trivial
theorem zeD {g q n:Nat}{E:TypeId}{l:List UInt8}{b:Nat}(hb:(⟨pk g q n,l.drop q⟩:Ls UInt8).on b):(zZ.zM g E (l.map bv)).fp b:=by
 rcases hb with ⟨h0,h⟩|⟨i',_,h⟩
 ·exact (show g=b from h).symm
 ·exact h.elim
theorem Nz {T D e:TypeId}{x:Operand}{s:Ls UInt8}(hT:P.underlying T=some (.slice e))(he:P.underlying e=some (.int .u8))(hD:P.underlying D=some .string)(ho:o.op= .convert T D x)(hx:ev F x=some s.v)(hat:∀w,Sh K W w L->s.At w)(h0:0<s.l.length):
  Rn P o N K W F L (.string ⟨s.l.toArray⟩):=λa w h=>by
 obtain ⟨A,cap,hv,hA⟩:=hat w h.sh
 obtain ⟨ad,e1,WI⟩:=hA.some h0
 have e1' :A=some ad:=e1
 subst e1'
 have key:=run_convert_bytes_back (P:=P) w T D e ad cap s.l hT he hD (λj hj=>by
  have hc:=hA.cell j 0 hj zf
  obtain ⟨zM,off,sp⟩:=ad
  simp only at WI
  subst WI
  rw [wD]
  have e2:(⟨some ⟨zM,off,none⟩,cap,s.l⟩:Sl UInt8).dJ 1 j 0=⟨zM,off+j,none⟩:=by simp [Sl.dJ]
  rw [<-e2]
  refine hc.trans ?_
  show some (Value.int .u8 ((nth s.l j).toNat:Int))=_
  rw [qq _ _ hj])
 unfold execOp
 simp only [ho,h.fr.ev hx,hv,qS,key,yQ,q5]
end
def gy (n:Int):Prop:= -9223372036854775808<=n/\n<9223372036854775808
def vB (l:List Int):Prop:=∀n∈l,gy n
theorem gy.wrap (n:Int):gy (wrap64 n):=by unfold wrap64 gy;omega
theorem gy.bit (b:Bool):gy (Go.Proofs.YtmjkobhkkjgplaaGreatDoor.bit b):=by unfold Go.Proofs.YtmjkobhkkjgplaaGreatDoor.bit gy;split<;>omega
theorem vB.nth {l:List Int}(h:vB l)(i:Nat):gy (nth l i):=by
 rcases yq i l.length with h1|h1
 ·exact h _ (qb _ _ h1)
 ·have e:Go.Proofs.YtmjkobhkkjgplaaGreatDoor.nth l i=0:=by simp [Go.Proofs.YtmjkobhkkjgplaaGreatDoor.nth,List.getD,h1]
  rw [e];unfold gy;omega
theorem vB.set {l:List Int}(h:vB l)(i:Nat){v:Int}(hv:gy v):vB (l.set i v):=λn hn=>by
 rcases List.mem_or_eq_of_mem_set hn with h1|rfl
 ·exact h n h1
 ·exact hv
theorem vB.app {l m:List Int}(h:vB l)(h2:vB m):vB (l++m):=λn hn=>(List.mem_append.1 hn).elim (h n) (h2 n)
def Mw (l:List Wt):Prop:=∀x∈l,gy x.wh/\gy x.qk
def Mx (i:Ins):Prop:=gy i.a/\gy i.b/\gy i.c
structure UH (x:TS):Prop where
 ze:vB x.ze
 wait:Mw x.wait
 words:vB x.words
 owner:vB x.owner
 zd:vB x.zd
section
variable {x:TS}{m:Int}
theorem UH.put (h:UH x)(k:Int){v:Int}(hv:gy v):UH (x.put k v):=⟨h.ze.set _ hv,h.wait,h.words,h.owner,h.zd⟩
theorem UH.xQ (h:UH x)(k:Int):gy (x.xQ k):=h.ze.nth _
theorem UH.JM (h:UH x)(w:Int):gy (x.JM w):=by
 unfold TS.JM x4
 split
 ·rename_i y hy
  exact (h.wait y (by have:=List.mem_of_find?_eq_some hy;simpa using this)).2
 ·exact h.words.nth _
theorem UH.done (h:UH x){w:Wt}(hw:gy w.qk):UH (x.done w):=by
 refine ⟨h.ze,h.wait,?_,?_,h.zd⟩
 ·show vB (if w.lock=true then x.words else x.words.set w.wh.toNat w.qk)
  split
  ·exact h.words
  ·exact h.words.set _ hw
 ·show vB (if w.lock=true then x.owner.set w.wh.toNat (-1) else x.owner)
  split
  ·exact h.owner.set _ (by unfold gy;omega)
  ·exact h.owner
theorem UH.store (h:UH x){w:Wt}(h1:gy w.wh)(h2:gy w.qk):UH (x.store m w):=by
 unfold TS.store
 split
 ·refine ⟨h.ze,λy hy=>?_,h.words,h.owner,h.zd⟩
  rcases List.mem_append.1 hy with hy|hy
  ·exact h.wait y hy
  ·obtain rfl:y=w:=by simpa using hy
   exact ⟨h1,h2⟩
 ·exact h.done h2
theorem UH.zq (h:UH x):UH { x with zq:=true } :=⟨h.ze,h.wait,h.words,h.owner,h.zd⟩
theorem UH.exec (h:UH x){n:Nat}(hn:n<1000){i:Ins}(hi:Mx i):UH (zJ m n i x):=by
 obtain ⟨ha,hb,hc⟩:=hi
 by_cases e1:i.op=1
 ·rw [Qc e1];exact h.put _ hb
 by_cases e2:i.op=2
 ·rw [Qb e2];exact h.put _ (h.xQ _)
 by_cases e3:i.op=3
 ·rw [Qa e3];exact h.put _ (.wrap _)
 by_cases e4:i.op=4
 ·rw [Z9 e4];exact h.put _ (.wrap _)
 by_cases e5:i.op=5
 ·rw [Z8 e5];exact h.put _ (.wrap _)
 by_cases e6:i.op=6
 ·rw [Z7 e6];exact h.put _ (.bit _)
 by_cases e7:i.op=7
 ·rw [Z6 e7];exact h.put _ (.bit _)
 by_cases e8:i.op=8
 ·rw [Z5 e8];exact h.put _ (h.JM _)
 by_cases e9:i.op=9
 ·rw [Z4 e9];exact h.store ha (h.xQ _)
 by_cases Wx:i.op=10
 ·by_cases hw:0<=x.xQ i.b/\x.xQ i.b<(x.words.length:Int)
  ·rw [vf Wx hw];exact h.put _ (h.JM _)
  ·rw [vg Wx hw];exact h.zq
 by_cases Kt:i.op=11
 ·by_cases hw:0<=x.xQ i.a/\x.xQ i.a<(x.words.length:Int)
  ·rw [vQ Kt hw];exact h.store (h.xQ _) (h.xQ _)
  ·rw [vR Kt hw];exact h.zq
 by_cases XX:i.op=13
 ·by_cases hw:nth x.words i.a.toNat=x.xQ i.b
  ·rw [vO XX hw]
   exact ⟨h.ze.set _ (by unfold gy;omega),h.wait,h.words.set _ (h.xQ _),h.owner,h.zd⟩
  ·rw [vP XX hw];exact h.put _ (by unfold gy;omega)
 by_cases bm:i.op=14
 ·rw [ko bm];exact ⟨h.ze,h.wait,h.words,h.owner,h.zd⟩
 by_cases GH:i.op=15
 ·by_cases hw:x.xQ i.a=0
  ·rw [jQ GH hw];exact ⟨h.ze,h.wait,h.words,h.owner,h.zd⟩
  ·rw [jR GH hw];exact h
 by_cases He:i.op=16
 ·rw [kZ He]
  refine ⟨h.ze,h.wait,h.words,h.owner,h.zd.app λv hv=>?_⟩
  rcases List.mem_cons.1 hv with rfl|hv
  ·unfold gy;omega
  ·obtain rfl:v=_:=by simpa using hv
   exact h.xQ _
 by_cases KG:i.op=17
 ·rw [kY KG];exact ⟨h.ze,h.wait,h.words,h.owner.set _ (by unfold gy;omega),h.zd⟩
 by_cases Jp:i.op=18
 ·by_cases hw:nth x.owner i.a.toNat≠n
  ·rw [va Jp hw];exact h.zq
  ·by_cases hh:∃j,j<x.wait.length/\(nth x.wait j).lock=true/\(nth x.wait j).wh=i.a
   ·obtain ⟨j,hj,h1,h2⟩:=hh
    rw [wK Jp hw j hj h1 h2];exact h.zq
   ·rw [vN Jp hw (λq hq hc=>hh ⟨q,hq,hc⟩)]
    exact h.store ha (by show gy 0;unfold gy;omega)
 rw [wB ⟨e1,e2,e3,e4,e5,e6,e7,e8,e9,Wx,Kt,XX,bm,GH,He,KG,Jp⟩]
 exact h
theorem UH.XY (h:UH x){n k:Nat}(hn:n<1000){c:List Ins}(hc:∀i∈c,Mx i):UH (Go.Proofs.YtmjkobhkkjgplaaGreatDoor.XY m n c k x):=by
 unfold Go.Proofs.YtmjkobhkkjgplaaGreatDoor.XY
 split
 ·have hw:gy (nth x.wait (k-1)).qk:=by
   rcases yq (k-1) x.wait.length with h1|h1
   ·exact (h.wait _ (qb _ _ h1)).2
   ·have e:nth x.wait (k-1)=⟨false,0,0⟩:=by simp [nth,List.getD,h1];rfl
    rw [e];show gy 0;unfold gy;omega
  have hd:=h.done hw
  exact ⟨hd.ze,λy hy=>h.wait y (bL hy),hd.words,hd.owner,hd.zd⟩
 ·refine UH.exec (x:= { x with pc:=x.pc+1 }) ⟨h.ze,h.wait,h.words,h.owner,h.zd⟩ hn ?_
  unfold zo
  split
  ·rename_i h1
   rcases yq x.pc.toNat c.length with h2|h2
   ·exact hc _ (qb _ _ h2)
   ·have e:nth c x.pc.toNat=default:=by simp [nth,List.getD,h2]
    rw [e]
    exact ⟨by show gy 0;unfold gy;omega,by show gy 0;unfold gy;omega,by show gy 0;unfold gy;omega⟩
  ·exact ⟨by show gy 0;unfold gy;omega,by show gy 0;unfold gy;omega,by show gy 0;unfold gy;omega⟩
end
structure pH (p:Pg):Prop where
 code:∀c∈p.code,∀i∈c,Mx i
 words:vB p.words
theorem Reach.r64 {p:Pg}(hp:pH p)(hl:p.code.length<1000){m:Int}{s:yc}(h:Reach p m s):∀t,UH (s.view t):=by
 have zol:∀(s:yc) t,s.zW.length<=t->(s.view t).ze= []/\(s.view t).wait= []:=λs t ht=>by
  have e:nth s.zW t=default:=by simp [nth,List.getD,ht]
  unfold yc.view
  rw [e];exact ⟨V,V⟩
 induction h with
 |start=>
  intro t
  have ho:vB (List.replicate p.zm.toNat (-1)):=λn hn=>by rw [List.eq_of_mem_replicate hn];unfold gy;omega
  refine ⟨?_,?_,hp.words,ho,λn hn=>(by cases hn)⟩
  ·show vB (nth (yr p).zW t).ze
   unfold yr
   rcases yq t p.code.length with h|h
   ·rw [zI _ _ _ h];exact λn hn=>by rw [List.eq_of_mem_replicate hn];unfold gy;omega
   ·simp [nth,List.getD,h];exact λn hn=>by cases hn
  ·show Mw (nth (yr p).zW t).wait
   unfold yr
   rcases yq t p.code.length with h|h
   ·rw [zI _ _ _ h];exact λn hn=>by cases hn
   ·simp [nth,List.getD,h];exact λn hn=>by cases hn
 | @step s t k hr ht hk hf ih=>
  have h1:UH (stepT p m s t k):=UH.XY (ih t) za (hp.code _ (qb _ _ ht))
  intro u
  by_cases e:t=u
  ·subst e
   rcases yq t s.zW.length with qU|qU
   ·rw [ZM qU]
    exact ⟨h1.ze,h1.wait,h1.words,h1.owner,h1.zd⟩
   ·have e2:(s.yt t (stepT p m s t k)).zW=s.zW:=List.set_eq_of_length_le qU
    obtain ⟨q1,q2⟩:=zol (s.yt t (stepT p m s t k)) t (by rw [e2];exact qU)
    exact ⟨by rw [q1];exact λn hn=>(by cases hn),by rw [q2];exact λn hn=>(by cases hn),h1.words,h1.owner,h1.zd⟩
  ·rw [Je e]
   exact ⟨(ih u).ze,(ih u).wait,h1.words,h1.owner,h1.zd⟩
def gN.Cj (F:gN)(i:F.ι)(words owner:Ls Int)(q:(F.mem i).σ):List (List Int):= [words.l,owner.l]++F.tq ((F.mem i).qs q)
structure YH (P:Program)(PL xn BX BY KEY:Nat)(F:gN):Prop where
 ok:∀i,KA P PL xn (F.mem i)
 hT:∀i,(F.mem i).T=F.T
 hm:∀i,(F.mem i).m=F.m
 tq:Aq F.tq F.Q
 qQ:∀i q,F.Q ((F.mem i).qs q)
 copy:∀(w:World) (i:F.ι) (words owner:Ls Int) (q:(F.mem i).σ),ZK PL (F.mem i) w words owner q->words.l.length<=64->owner.l.length<=4->((F.mem i).qs q).length<=4->(∀l∈(F.mem i).qs q,l.length<=3)->
  VK P (F.mem i).T (F.mem i).u "Copy" [] w (λv w' =>∃(i' :F.ι) (zB zA:Ls Int) (q' :(F.mem i').σ),v= .iface (F.mem i').T (.pointer (some (F.mem i').u))/\zB.l=words.l/\zA.l=owner.l/\(F.mem i').qs q' =(F.mem i).qs q/\qM w w' (km PL xn (F.mem i') zB zA q'))
 tell:∀(K:Nat->Prop) (W:World) (i:F.ι) (words owner:Ls Int) (q:(F.mem i).σ) (gb:Nat) (bs:Ls UInt8),Sh K W W [.zM gb BX [bs.v],.own BY bs,.zx (F.mem i).g0 PL [words.v,owner.v],.at_ words,.at_ owner,.ro [(F.mem i).X q]]->
  words.l.length<=64->owner.l.length<=4->((F.mem i).qs q).length<=4->(∀l∈(F.mem i).qs q,l.length<=3)->vB words.l->vB owner.l->(∀l∈(F.mem i).qs q,Mw l)->bs.l.length<=1000000000000->
  VK P (F.mem i).T (F.mem i).u "Tell" [.func (.func KEY) #[] #[.pointer (some ⟨gb,0,none⟩)]] W (λv w' =>v= .tuple #[]/\∃JN:Ls UInt8,JN.l=bs.l++ZC ((F.Cj i words owner q).flatMap vG)/\JN.l.length<=bs.l.length+100000/\
   Sh K W w' [.zM gb BX [JN.v],.own BY JN,.zx (F.mem i).g0 PL [words.v,owner.v],.at_ words,.at_ owner,.ro [(F.mem i).X q]])
def zZ.KR (rows:List q6):zZ where
 fp _:=False
 rd b:=∃r∈rows,r.ze.on b
 ok w:=∀r∈rows,r.ze.At w
 yB w w' h hb r hr:=(h r hr).yB λb xl=>hb b (.inr ⟨r,hr,xl⟩)
 lt w h b hb:=by rcases hb with hb|⟨r,hr,hb⟩;exact hb.elim;exact (h r hr).lt hb
theorem mO {K:Nat->Prop}{W w:World}{L:List zZ}{rows:List q6}(h:Sh K W w L)(i:Nat)(hi:L[i]? =some (.KR rows))(t:Nat)(ht:t<rows.length):(nth rows t).ze.At w:=h.ok _ (zy hi) _ (qb _ _ ht)
theorem aJ (n:Int)(h: -9223372036854775808<=n/\n<9223372036854775808):(kV n).length<=65:=by
 have key:∀k n,n<36^(k+1)->(Q6 n).length<=k+1:=by
  intro k
  induction k with
  |zero=>intro n hn;rw [GI (by simpa using hn)];simp
  |succ k ih=>
   intro n hn
   by_cases QJ:n<36
   ·rw [GI QJ];simp
   ·rw [Rs QJ,yX]
    have:=ih (n/36) (by rw [Hw zf,<-Nat.pow_succ];exact hn)
    simp only [yY,xY]
    omega
 have:=key 63 n.natAbs (by
  have:(36:Nat)^64>9223372036854775808:=zf
  omega)
 unfold kV
 split
 ·simp only [yY];omega
 ·omega
theorem Qi {l:List Int}(h:∀n∈l,-9223372036854775808<=n/\n<9223372036854775808):(vG l).length<=66*l.length+1:=by
 unfold vG
 rw [yX]
 have:(l.flatMap λn=>kV n++ [32]).length<=66*l.length:=by
  induction l with
  |nil=>simp
  |cons x l ih=>
   rw [kF,yX,yX,yY]
   have h1:=aJ x (h x (by simp))
   have h2:=ih λn hn=>h n (by simp [hn])
   simp only [yY,xY]
   omega
 simp only [yY,xY]
 omega
section
variable {P:Program}{o:Oper}{N:Nat}{K:Nat->Prop}{W w:World}{F:List (Nat×Value)}{L:List zZ}{T U D:TypeId}{x y:Operand}
theorem mS {p:Nat}(hs:P.underlying T=some (.int .i64))(hd:P.underlying D=some (.int .u64))(ho:o.op= .convert T D x)(hx:ev F x=some (.int .i64 ((p:Nat):Int)))(hp:p<18446744073709551616):Rn P o N K W F L (.int .u64 ((p:Nat):Int)):=by
 have h:=rr (P:=P) (N:=N) (K:=K) (W:=W) (L:=L) hs hd ho hx
 rwa [show W1 ((p:Nat):Int)=p by unfold W1;omega] at h
theorem mT {p:Nat}(ho:o.op= .binOp .and T x y U)(hx:ev F x=some (.int .u64 ((p:Nat):Int)))(hy:ev F y=some (.int .u64 4294967295))(hp:p<4294967296):Rn P o N K W F L (.int .u64 ((p:Nat):Int)):=wu ho hx hy λw=>by
 rw [binOp_and]
 have h1:Op.intBits .and .u64 (p:Int) 4294967295=pure (.int .u64 (bits .and .u64 p 4294967295)):=rfl
 have h2:=bits_and_u64_nat p 4294967295 za za
 have e:p&&&4294967295=p:=by rw [show (4294967295:Nat)=2^32-1 from V,Nat.and_two_pow_sub_one_eq_mod];exact Nat.mod_eq_of_lt hp
 rw [h1,show (4294967295:Int)=((4294967295:Nat):Int) from V,h2,e];rfl
theorem RS {p:Nat}(ho:o.op= .binOp .shr T x y U)(hx:ev F x=some (.int .u64 ((p:Nat):Int)))(hy:ev F y=some (.int .u64 32))(hp:p<4294967296):Rn P o N K W F L (.int .u64 ((0:Nat):Int)):=by
 have h:=CL (P:=P) (N:=N) (K:=K) (W:=W) (L:=L) (k:=32) ho hx hy zf
 rwa [show p/2^32=0 from Nat.div_eq_of_lt hp] at h
theorem Ua {p q r:Nat}(ho:o.op= .binOp .mul T x y U)(hx:ev F x=some (.int .u64 ((p:Nat):Int)))(hy:ev F y=some (.int .u64 ((q:Nat):Int)))(hr:p*q=r)(hb:r<18446744073709551616):Rn P o N K W F L (.int .u64 ((r:Nat):Int)):=by
 have h:=CM (P:=P) (N:=N) (K:=K) (W:=W) (L:=L) ho hx hy
 rwa [hr,Nat.mod_eq_of_lt hb] at h
theorem cm {p q r:Nat}(ho:o.op= .binOp .add T x y U)(hx:ev F x=some (.int .u64 ((p:Nat):Int)))(hy:ev F y=some (.int .u64 ((q:Nat):Int)))(hr:p+q=r)(hb:r<18446744073709551616):Rn P o N K W F L (.int .u64 ((r:Nat):Int)):=wu ho hx hy λw=>by
 subst hr
 have:(((p:Nat):Int)+(q:Nat))%18446744073709551616=((p+q:Nat):Int):=za
 simp [go_sem,UJ,this]
end
section
variable {P:Program}{o:Oper}{N:Nat}{K:Nat->Prop}{W w:World}{a:Act}{F:List (Nat×Value)}{L:List zZ}{T kT eT:TypeId}{p:Option Nat}{l:List (Int×Int)}{k v:Int}{g:Nat}
theorem mM {w:World}{g:Nat}(qU:g<w.heap.size)(es:Array MapEntry)(t:Nat):(World.ji w g es t).heap[g]? =some (.map es t):=by
 show (w.heap.setIfInBounds g _)[g]? =_
 rw [Array.getElem?_setIfInBounds_self_of_lt qU]
end
section
variable {P:Program}{o:Oper}{N:Nat}{K:Nat->Prop}{W w:World}{F:List (Nat×Value)}{L:List zZ}{T U D:TypeId}{x y:Operand}
theorem za4 {p q:Nat}(ho:o.op= .binOp .quo T x y U)(hx:ev F x=some (.int .u64 ((p:Nat):Int)))(hy:ev F y=some (.int .u64 ((q:Nat):Int)))(hq:0<q/\p<18446744073709551616):Rn P o N K W F L (.int .u64 (((p/q:Nat)):Int)):=wu ho hx hy λw=>by
 have h1:¬(q:Int)=0:=za
 have h0:¬q=0:=za
 have h2:(p:Int).tdiv q=((p/q:Nat):Int):=by rw [Int.tdiv_eq_ediv_of_nonneg za];rfl
 have h3:(((p/q:Nat):Int))%18446744073709551616=((p/q:Nat):Int):=by
  have hz:p/q<18446744073709551616:=Nat.lt_of_le_of_lt (Nat.div_le_self _ _) hq.2
  generalize p/q=z at hz
  omega
 rw [Int.natCast_ediv] at h3
 simp [go_sem,h0,h1,h2,UJ,h3]
theorem zaY {p q:Nat}(ho:o.op= .binOp .sub T x y U)(hx:ev F x=some (.int .u64 ((p:Nat):Int)))(hy:ev F y=some (.int .u64 ((q:Nat):Int)))(hq:q<=p/\p<18446744073709551616):Rn P o N K W F L (.int .u64 (((p-q:Nat)):Int)):=wu ho hx hy λw=>by
 have:(((p:Nat):Int)-(q:Nat))%18446744073709551616=((p-q:Nat):Int):=za
 simp [go_sem,UJ,this]
theorem za6 {p:Nat}(ho:o.op= .unOp .neg T x)(hx:ev F x=some (.int .u64 ((p:Nat):Int))):Rn P o N K W F L (.int .u64 (((W1 (-(p:Int)):Nat)):Int)):=λa w h=>by
 have e:(-(p:Int))%18446744073709551616=((W1 (-(p:Int)):Nat):Int):=by unfold W1;omega
 unfold execOp
 simp only [ho,h.fr.ev hx]
 simp [unary_neg,Op.intArith,UJ,e]
theorem fk {s:ByteArray}{q:Nat}(hT:P.underlying T=some .string)(ho:o.op= .index T x y)(hx:ev F x=some (.string s))(hz:ev F y=some (.int .u64 ((q:Nat):Int)))(hq:q<s.size):Rn P o N K W F L (.int .u8 ((s[q]'hq).toNat:Int)):=λa w h=>by
 have key:(Instr.index T (.string s) (.int .u64 (q:Int))).run P w= .ok (.int .u8 ((s[q]'hq).toNat:Int)) w:=by
  rw [run_index_string _ _ _ _ _ hT]
  simp [hq]
 unfold execOp
 simp only [ho,h.fr.ev hx,h.fr.ev hz,qS,key,yQ,q5]
end
theorem p5 {n:Int}(h:n<0/\-9223372036854775808<=n):W1 (-((W1 n:Nat):Int))=n.natAbs:=by unfold W1;omega
theorem p4 {n:Int}(h:¬n<0)(h2:n<9223372036854775808):W1 n=n.natAbs:=by unfold W1;omega
def GJ :ByteArray:=⟨#[48,49,50,51,52,53,54,55,56,57,97,98,99,100,101,102,103,104,105,106,107,108,109,110,111,112,113,114,115,116,117,118,119,120,121,122]⟩
theorem sY {q:Nat}(h:q<GJ.size):GJ[q]'h=UInt8.ofNat (dg q):=by
 have key:∀i:Fin 36,GJ[i.1]'i.2=UInt8.ofNat (dg i.1):=zf
 exact key ⟨q,h⟩
theorem LI {u k:Nat}(h:u<=18446744073709551615/36^k)(hu:36<=u):k<12:=by
 apply Classical.byContradiction
 intro hk
 have h1:36^12<=36^k:=Nat.pow_le_pow_right zf za
 have h2:18446744073709551615/36^k<=18446744073709551615/36^12:=Nat.div_le_div_left h1 zf
 have h3:18446744073709551615/36^12=3:=zf
 omega
theorem LJ {u k:Nat}(h:u<=18446744073709551615/36^k):u/36<=18446744073709551615/36^(k+1):=by
 rw [Nat.pow_succ,<-Nat.div_div_eq_div_mul]
 exact Nat.div_le_div_right h
theorem LH {u0 u i:Nat}{l:List UInt8}{b:UInt8}(h:ZC (Q6 u0)=ZC (Q6 u)++l.drop (i+1))(hu:36<=u)(hi:i<l.length)(hb:b=UInt8.ofNat (dg (u-u/36*36))):ZC (Q6 u0)=ZC (Q6 (u/36))++(l.set i b).drop i:=by
 have e:u-u/36*36=u%36:=za
 rw [h,Rs za,Qd,hb,e,JV (show i<(l.set i _).length by rw [XP];exact hi),List.getElem_set_self,List.drop_set_of_lt za,xi]
 rfl
theorem LK {u0 u i:Nat}{l:List UInt8}{b:UInt8}(h:ZC (Q6 u0)=ZC (Q6 u)++l.drop (i+1))(hu:¬36<=u)(hi:i<l.length)(hb:b=UInt8.ofNat (dg u)):ZC (Q6 u0)=(l.set i b).drop i:=by
 rw [h,GI za,hb,JV (show i<(l.set i _).length by rw [XP];exact hi),List.getElem_set_self,List.drop_set_of_lt za]
 rfl
theorem um (B:Nat->Ins->List Ins)(code:List Ins)(h:∀i,i<code.length->∀x∈B i (nth code i),x.op=15->(nth code i).op≠17):Ul B code=CS (wR B code) code:=by
 unfold Ul CS VS
 simp only [List.flatMap]
 congr 1
 apply bG
 intro i hi
 have wm:i<code.length:=by simpa using hi
 rw [GN _ _ _ wm]
 apply bG
 intro x hx
 unfold Vx YE
 have:=h i wm x hx
 split
 ·rfl
 ·split
  ·rfl
  ·rw [if_neg (λhh=>this hh.1 hh.2)]
theorem aI {code:Ls (Ls Ins)}{words:Ls Int}{zm ze:Int}(h:yJ (yH code words zm ze))(t:Nat)(ht:t<code.l.length):(nth code.l t).l.length<=400/\Ry (nth code.l t).l:=by
 have e:nth (yH code words zm ze).code t=(nth code.l t).l:=zI _ _ _ ht
 have Ut:t<(yH code words zm ze).code.length:=by simpa [yH] using ht
 refine ⟨by rw [<-e];exact h.len t Ut,λi hi=>?_⟩
 have Dy:=h.ins t i Ut (by rw [e];exact hi)
 rw [e] at Dy
 have hw:wrap64 (((nth code.l t).l.length:Int)+1)=((nth code.l t).l.length:Int)+1:=by
  have hlen:=h.len t Ut
  rw [e] at hlen
  exact Bm _ ⟨za,za⟩
 refine ⟨λxd=>?_,λxr=>?_⟩
 ·have h0:=Dy.n0
  unfold gq at h0
  rw [xd] at h0
  have hk:qL 14=⟨#[99]⟩:=by unfold qL;simp
  rw [hk] at h0
  simp only [show (0:Nat)<(⟨#[99]⟩:ByteArray).size from zf,dif_pos] at h0
  have:ZI (yH code words zm ze) (nth code.l t).l.length 99 (nth (nth code.l t).l i).a=true:=h0
  unfold ZI at this
  simp only [Int.reduceEq,if_false,if_true,hw,qI,decide_eq_true_eq] at this
  omega
 ·have h0:=Dy.n1
  unfold gq at h0
  rw [xr] at h0
  have hk:qL 15=⟨#[114,99]⟩:=by unfold qL;simp
  rw [hk] at h0
  simp only [show (1:Nat)<(⟨#[114,99]⟩:ByteArray).size from zf,dif_pos] at h0
  have:ZI (yH code words zm ze) (nth code.l t).l.length 99 (nth (nth code.l t).l i).b=true:=h0
  unfold ZI at this
  simp only [Int.reduceEq,if_false,if_true,hw,qI,decide_eq_true_eq] at this
  omega
theorem C8 {code:Ls (Ls Ins)}{words:Ls Int}{zm ze:Int}(h:yJ (yH code words zm ze)):1<=code.l.length/\code.l.length<=4/\words.l.length<=64/\0<=zm/\zm<=4/\1<=ze/\ze<=200:=by
 have h1:=h.code
 have h2:=h.words
 have h3:=h.zm
 have h4:=h.ze
 simp only [yH,yw] at h1 h2 h3 h4
 omega
theorem po :arI Tryz.prog 247=some (65,5):=zb
theorem NG (W:World):
    zP Tryz.prog 178 [.int .i64 36] W (λv w' =>v= .bool false/\qM W w' []):=by
 refine gen Tryz.func178 Tryz.ntmps178 (qM.start _:Sh (λ_=>False) W W []) V λjP z7=>gG z7<|sG (oM 1 V<|.nl)<|sG (oM 2 V<|na 36 1 zp V<|oV (wu (v:= .int .i64 32) V V V (λw=>by first|kernel_rfl|rfl|simp [go_sem])) V<|KX 32 0 V<|oM 1 V<|.nl)<|gR<|λPW A0 QO=>zu (fn:=Tryz.f178) (t:=2) V QO V ?_;clear z7
 exact ⟨V,(QO.sh.zY [] V)⟩
theorem zdN (K:Nat->Prop)(bs:Ls UInt8)(u0:Nat)(W:World)(hS:Sh K W W [.own 5 bs])(hu0:u0<18446744073709551616)(aY:bs.l.length<=100000000000000):
    zP Tryz.prog 174 [bs.v,.int .u64 ((u0:Nat):Int),.int .i64 36,.bool false,.bool true] W (λv w' =>∃JN:Ls UInt8,v= .tuple #[JN.v,.string ⟨#[]⟩]/\JN.l=bs.l++ZC (Q6 u0)/\Sh K W w' [.own 5 JN]):=by
 refine gen Tryz.func174 Tryz.ntmps174 hS V λjP z7=>gG z7<|sG (oM 2 V<|.nl)<|gK λ_ j1=>sG (oM 1 V<|xk 36 2 V<|oM 1 V<|oG zf (zG V V) V<|oG zf (ck (p:=36) (q:=10) V V V) V<|Zx zf V<|oM 1 V<|oG zf (zG V V) V<|oG zf (Ub (p:=36) (q:=36) V V V) V<|Zx zf V<|.nl)<|Q1 V zf<|gS<|hK j1<|sK λ_ Xp=>xb (λ_ _ h_=>tp (k:=65) h_ zaQ zb V V V) V λAJ=>nK Xp<|sG (oM 1 V<|.nl)<|gK λ_ Us=>sG (oM 1 V<|.nl)<|Q1 V V<|gS<|hK Us<|gK λ_ Va=>sK λ_ K7=>zn (oM 1 V<|.nl)<|gP (λ_ _ h_=>gQ h_ zei V (NG _)) V<|nK K7<|Q1 V V<|sG (oM 1 V<|oV (mS Tryz.underlying3 Tryz.underlying202 V V (show 36<18446744073709551616 from zp)) V<|oM 1 V<|.nl)<|gK λ_ V6=>gB<|λa25 tw Wu=>qE (λm a w=>∃(i k u:Nat) (al:List UInt8),(i+k=65/\k<=12)/\(u<=18446744073709551615/36^k)/\(u<=18446744073709551615)/\(al.length=65)/\(ZC (Q6 u0)=ZC (Q6 u)++al.drop i)/\St 102 K W a w [(0,bs.v),(1,.int .u64 ((u:Nat):Int)),(3,.bool false),(4,.bool true),(10,(.slice none 0 0)),(11,.string ({ data:= #[] })),(12,.pointer (some ⟨AJ,0,none⟩)),(13,.int .i64 ((i:Nat):Int)),(17,.int .u64 ((36:Nat):Int))] [.zM AJ 247 (al.map bv),.own 5 bs]/\m=u) ⟨_,65,0,u0,List.replicate 65 (0:UInt8),za,(by simpa using (by omega:u0<=18446744073709551615)),za,(by simp),(by simp),Wu.nf ⟨V,V,V,V,V,V,V,V,V,trivial⟩,V⟩ ?_;clear z7
 clear Wu
 rintro m24 a24 dN ⟨i,k,u,al,hik,hu,hu2,MQ,hd,wJ,zq5⟩
 refine gG wJ<|gK λ_ De=>sG (oM 2 V<|zbn _ 36 V<|.nl)<|?_;clear wJ
 refine gcd V (λXJ FG=>?_) λXJ FG=>?_
 ·skip
  refine gS<|hK De<|?_
  have zxG:=LI hu zc
  refine gB<|sG (oM 1 V<|na _ 1 zp V<|oM 1 V<|.nl)<|sG (oM 2 V<|oV (za4 (p:=u) (q:=36) V V V (show 0<36/\u<18446744073709551616 from zp)) V<|oM 1 V<|.nl)<|sK λ_ lY=>zn (oM 4 V<|oV (Ua (p:=u/36) (q:=36) (r:=(u/36)*36) V V V V (show (u/36)*36<18446744073709551616 from zp)) V<|oV (zaY (p:=u) (q:=(u/36)*36) V V V (show (u/36)*36<=u/\u<18446744073709551616 from zp)) V<|.nl)<|?_
  have zbV:u-((u/36)*36)<GJ.size:=(by first|omega|(show _<36;omega))
  intro pz mu YA
  refine wv YA (fk (s:=GJ) (q:=u-((u/36)*36)) Tryz.underlying9 V V V zbV) V V λa33 Vb=>gG Vb<|zn (oV (CO (q:=i-1) po HE V V V V (show i-1<65 from (by first|omega|(show _<36;omega)))) V<|.nl)<|gE (λ_ _ h_=>AP (i:=0) (l:=al) (n:=(GJ[u-((u/36)*36)]'zbV)) h_ HE V V V V V (show i-1<al.length from zp)) V<|nK lY<|gL<|zn (oM 2 V<|.nl)<|nN<|λpy lV QJ=>?_;clear YA Vb
  change∃_m,_m<_/\_
  refine ⟨_,?_,(i-1),(k+1),(u/36),al.set (i-1) (GJ[u-((u/36)*36)]'zbV),?_,?_,?_,?_,?_,QJ.nf ⟨V,V,V,V,V,V,V,V,V,trivial⟩,V⟩
  · rw [zq5];omega
  · omega
  · exact LJ hu
  · omega
  · simpa using MQ
  · exact LH (by rw [show i-1+1=i from za];exact hd) zc za (sY _)
 refine gX<|hK V6<|sG (oM 1 V<|na _ 1 zp V<|oM 1 V<|.nl)<|gL<|zn (oM 2 V<|.nl)<|?_
 have uE:u<GJ.size:=(by first|omega|(show _<36;omega))
 intro a40 mr YO
 refine wv YO (fk (s:=GJ) (q:=u) Tryz.underlying9 V V V uE) V V λa39 QC=>gG QC<|zn (oV (CO (q:=i-1) po HE V V V V (show i-1<65 from (by first|omega|(show _<36;omega)))) V<|.nl)<|gE (λ_ _ h_=>AP (i:=0) (l:=al) (n:=(GJ[u]'uE)) h_ HE V V V V V (show i-1<al.length from zp)) V<|nK Va<|gK λ_ Ol=>sG (oM 1 V<|.nl)<|Q1 V V<|gS<|hK Ol<|gK λ_ nB=>sG (oM 1 V<|.nl)<|BJ V V<|sK λ_ k46=>zn (oM 2 V<|oV (za1 (q:=i-1) po HE V V V V (show i-1<65 from zp)) V<|.nl)<|xb (λ_ _ h_=>yu (r:=1) (rm:=0) (s:=bs) (m:=(⟨(pk AJ (i-1) 65),((al.set (i-1) (GJ[u]'uE)).drop (i-1))⟩:Ls UInt8)) h_ W5 HE V V V V V V V (λw h=>(zeE h (i:=0) V (by simpa using MQ) (show i-1<=65 from zp) zf)) (λb hb=> .inl (zeD hb)) (λq hq b hb=>(Flat.on _ _ hb).elim) V V V inferInstance (show (bs.l.length+((al.set (i-1) (GJ[u]'uE)).drop (i-1)).length)*1<=140737488355328/\bs.l.length+((al.set (i-1) (GJ[u]'uE)).drop (i-1)).length<=140737488355328 from (by first|omega|(simp only [v7,XP,MQ];omega))) V V) V λv47=>zn (oM 1 V<|.nl)<|nK k46<|gR<|uT<|λAo tt Yy=>WY (fn:=Tryz.f174) (t:=10) (u:=11) V Yy V V<|⟨⟨v47,bs.l++((al.set (i-1) (GJ[u]'uE)).drop (i-1))⟩,V,?_,(Yy.sh.zY [1] V)⟩;clear YO QC
 show bs.l++_=bs.l++_
 congr 1
 exact (LK (by rw [show i-1+1=i from za];exact hd) zc za (sY _)).symm
theorem Mq (K:Nat->Prop)(bs:Ls UInt8)(u0:Nat)(W:World)(hS:Sh K W W [.own 5 bs])(hu0:u0<18446744073709551616)(aY:bs.l.length<=100000000000000):
    zP Tryz.prog 167 [bs.v,.int .u64 ((u0:Nat):Int),.int .i64 36] W (λv w' =>∃JN:Ls UInt8,v=JN.v/\JN.l=bs.l++ZC (Q6 u0)/\Sh K W w' [.own 5 JN]):=by
 refine gen Tryz.func167 Tryz.ntmps167 hS V λjP z7=>gG z7<|sG (oM 1 V<|.nl)<|gK λ_ j1=>sG (oM 1 V<|KX 36 10 V<|.nl)<|Q1 V zf<|gS<|hK j1<|sK λ_ Xp=>zn (oM 3 V<|.nl)<|gM 1 V (λ_ _ h_=>gQ h_ zej V (zdN _ bs (u0) _ (mY 1 h_ V) za za)) V<|?_;clear z7
 rintro _ _ Hy ⟨zs0,rfl,zko,Ge⟩
 refine oQ Ge V<|gU<|zn (oM 1 V<|kK V<|kK V<|oM 1 V<|.nl)<|nK Xp<|sG (oM 2 V<|.nl)<|gR<|λHS Hx jc=>?_;clear Ge
 refine zu (fn:=Tryz.f167) (t:=6) V jc V ?_
 exact ⟨zs0,V,zko,jc.sh⟩
theorem zeF (K:Nat->Prop)(bs:Ls UInt8)(n0:Int)(W:World)(hS:Sh K W W [.own 5 bs])(hn0: -9223372036854775808<=n0/\n0<9223372036854775808)(aY:bs.l.length<=10000000000000):
    zP Tryz.prog 153 [bs.v,.int .i64 n0,.int .i64 36] W (λv w' =>∃JN:Ls UInt8,v=JN.v/\JN.l=bs.l++ZC (kV n0)/\Sh K W w' [.own 5 JN]):=by
 refine gen Tryz.func153 Tryz.ntmps153 hS V λjP z7=>gG z7<|sG (oM 1 V<|.nl)<|sG (oM 1 V<|oV (rr Tryz.underlying2 Tryz.underlying202 V V) V<|oM 1 V<|.nl)<|gK λ_ gu=>sG (oM 1 V<|fG _ _ V<|.nl)<|?_;clear z7
 refine gcd V (λB6 od=>?_) λB6 od=>?_
 ·skip
  refine sK λ_ nC=>zn (oM 1 V<|.nl)<|xb (λ_ _ h_=>qF (n:=1) (cs:= [.int .u8 45]) ([45]:List UInt8) h_ W5 HE V V V zf V zb V (λq hq w h=>Flat.inner _ _) (λq hq b hb=>(Flat.on _ _ hb).elim) V V) V λv17=>xb (λ_ _ h_=>yu (r:=1) (rm:=0) (s:=bs) (m:=(⟨v17,[45]⟩:Ls UInt8)) h_ W5 HE V V V V V V V (λw h=>(h.own 0 V)) (λb hb=>qt (h_.sh.ok _ (zy (i:=0) V)) hb) (λq hq b hb=>⟨q,hq,hb⟩) V V V inferInstance (show (bs.l.length+([45]).length)*1<=140737488355328/\bs.l.length+([45]).length<=140737488355328 from zp) V V) V λNh=>zn (oM 1 V<|.nl)<|nK nC<|gL<|zn (oM 1 V<|oV (za6 (p:=W1 n0) V V) V<|oM 1 V<|.nl)<|nK gu<|sK λ_ Va=>zn (oM 3 V<|.nl)<|gO [1,0] V<|gM 1 V (λ_ _ h_=>gQ h_ Mb V (Mq _ (⟨Nh,bs.l++([45])⟩:Ls UInt8) (W1 (-((W1 n0:Nat):Int))) _ (mY 1 h_ V) (by first|exact WZ _|omega) (by first|omega|(rw [yX];simp;omega)|(simp;omega)))) V<|?_
  rintro _ _ eI ⟨zsZ,rfl,zkn,iq⟩
  refine oQ iq V<|gU<|zn (oM 1 V<|.nl)<|nK Va<|gR<|λa23 tx kq=>?_;clear iq
  refine zu (fn:=Tryz.f153) (t:=6) V kq V<|⟨zsZ,V,zkn.trans ?_,(kq.sh.zY [0] V)⟩
  unfold kV
  first|(rw [if_pos zc,p5 za,xi];rfl)|(rw [if_neg zc,p4 zc za])
 refine gS<|hK gu<|sK λ_ Ke=>zn (oM 3 V<|.nl)<|gM 1 V (λ_ _ h_=>gQ h_ Mb V (Mq _ bs (W1 n0) _ (mY 1 h_ V) (by first|exact WZ _|omega) (by first|omega|(rw [yX];simp;omega)|(simp;omega)))) V<|?_
 rintro _ _ lX ⟨zsY,rfl,zkl,HI⟩
 refine oQ HI V<|gU<|zn (oM 1 V<|.nl)<|nK Ke<|gR<|λMW MG Ko=>?_;clear HI
 refine zu (fn:=Tryz.f153) (t:=6) V Ko V<|⟨zsY,V,zkl.trans ?_,Ko.sh⟩
 unfold kV
 first|(rw [if_pos zc,p5 za,xi];rfl)|(rw [if_neg zc,p4 zc za])
theorem Nv (K:Nat->Prop)(bs:Ls UInt8)(n0:Int)(W:World)(hS:Sh K W W [.own 5 bs])(hn0: -9223372036854775808<=n0/\n0<9223372036854775808)(aY:bs.l.length<=10000000000000):
    zP Tryz.prog 142 [bs.v,.int .i64 n0,.int .i64 36] W (λv w' =>∃JN:Ls UInt8,v=JN.v/\JN.l=bs.l++ZC (kV n0)/\Sh K W w' [.own 5 JN]):=by
 refine gen Tryz.func142 Tryz.ntmps142 hS V λjP z7=>gG z7<|sG (oM 1 V<|.nl)<|sK λ_ j1=>zn (oM 3 V<|.nl)<|gM 1 V (λ_ _ h_=>gQ h_ zem V (zeF _ bs (n0) _ (mY 1 h_ V) za za)) V<|?_;clear z7
 rintro _ _ BN ⟨zs1,rfl,zkp,Gg⟩
 refine oQ Gg V<|gU<|zn (oM 1 V<|.nl)<|nK j1<|gR<|λHT Hz xr=>?_;clear Gg
 refine zu (fn:=Tryz.f142) (t:=6) V xr V ?_
 exact ⟨zs1,V,zkp,xr.sh⟩
end Go.Proofs.YtmjkobhkkjgplaaGreatDoor
namespace Go.Proofs.YtmjkobhkkjgplaaGreatDoor
open Go.RowKit Go.Shelf
set_option linter.unusedSimpArgs false
set_option linter.unusedVariables false
attribute [local go_sem] Oper.semAt_some
@[local go_sem] theorem zga:zz.sz Wt=3:=rfl
@[local go_sem] theorem zeH:zz.agg Wt=true:=rfl
@[local go_sem] theorem LS (x:Wt):zz.cell x 0= .bool x.lock:=rfl
@[local go_sem] theorem LR (x:Wt):zz.cell x 1= .int .i64 x.wh:=rfl
@[local go_sem] theorem LQ (x:Wt):zz.cell x 2= .int .i64 x.qk:=rfl
@[local go_sem] theorem AY (x:Wt):zz.whole x= .agg #[.bool x.lock,.int .i64 x.wh,.int .i64 x.qk]:=rfl
def VE (l:List Wt)(k:Nat):List (Nat×Wt):=(List.range k).map λj=>(l.length-1-j,nth l (l.length-1-j))
theorem Kv (l:List Wt)(k:Nat):VE l (k+1)=VE l k++ [(l.length-1-k,nth l (l.length-1-k))]:=by simp [VE,YG]
theorem Am (l:List Wt)(k:Nat):(VE l k).length=k:=by simp [VE]
set_option maxRecDepth 100000 in
set_option maxHeartbeats 4000000 in
theorem Mp (F:Fence)(n:Nat)(hF:F.fn 221)(uJ:F.round=none)(hn:1<=n)(l Bs BS:Nat)(s:Sl Wt)(hs3:s.l.length<=3)(hb:∀b,s.on b->b<BS)(J Jx:List (Nat×Wt)->World->Prop)
  (hY:∀pre x W,J pre W->pre.length<s.l.length->YieldAt F (n-1) Tryz.prog l #[.int .i64 ((x.1:Nat):Int),.agg #[.bool x.2.lock,.int .i64 x.2.wh,.int .i64 x.2.qk]] W λe W' =>
   (e= .returned (.bool true)/\J (pre++ [x]) W' /\Below BS W W')\/(e= .returned (.bool false)/\Jx (pre++ [x]) W'))
  (W:World) (hBs:Bs<BS) (hBc:W.cell? ⟨Bs,0,none⟩=some (.slice s.A s.l.length s.cap)) (hs:s.At W) (h0:J [] W):
  CallsIn F n Tryz.prog 221 #[.func (.yield l) #[] #[],.pointer (some ⟨Bs,0,none⟩)] W λe W' =>(∃v,e= .returned v)/\
   ((∃ys,ys=VE s.l s.l.length/\J ys W')\/(∃pre,(∃k,k<=s.l.length/\pre=VE s.l k)/\Jx pre W')):=by
 refine callsIn_of_wp Tryz.func221 V hF ?_ uJ
 simp only [Tryz.ntmps221,bE,yY,xY,Nat.reduceAdd,Nat.reduceSub,Array.replicate_succ,Array.replicate_zero,List.push_toArray,List.append_toArray,JP,QQ]
 gi_wp2
 gi_loopw [3] (λi wr=>∃k:Nat,k<=s.l.length/\i= .int .i64 ((s.l.length:Int)-1-k)/\J (VE s.l k) wr/\Below BS W wr)
  (λi _=>(intOf i+1).toNat)
 case atStart=>exact ⟨0,wX _,by simp,h0,xa _ _⟩
 case round=>
  obtain ⟨k,hk,rfl,hJs,l5⟩:=hrel
  have hBx:wr.cell? ⟨Bs,0,none⟩=some (.slice s.A s.l.length s.cap):=(l5.cell (p:=⟨Bs,0,none⟩) hBs).trans hBc
  have hsx:s.At wr:=hs.yB λb xl=>l5.block b (hb b xl)
  by_cases qU:k<s.l.length
  ·obtain ⟨q,hq,e9,e8⟩:∃q:Nat,q<s.l.length/\(s.l.length:Int)-1-k=((q:Nat):Int)/\s.l.length-1-k=q:=⟨s.l.length-1-k,za,za,V⟩
   obtain ⟨fn,tmps,assign,body,hy,hR⟩:=hY _ (q,nth s.l q) wr hJs (by rw [Am];exact qU)
   dsimp only at hy
   rw [e9]
   gi_wp2
   refine hR.mono ?_
   rintro e W3 (⟨rfl,hJ3,hk3⟩|⟨rfl,zso⟩)
   ·gi_wp2
    go_roundw
    case rel=>exact ⟨k+1,za,by congr 1<;>omega,by rw [Kv,e8];exact hJ3,l5.trans hk3⟩
    case measure=>simp [intOf]<;>omega
   ·gi_wp2
    refine bodyPost_ret (results_none V _ _ _) V ?_
    exact ⟨⟨_,V⟩,.inr ⟨_,⟨k+1,za,by rw [Kv,e8]⟩,zso⟩⟩
  ·obtain rfl:k=s.l.length:=za
   gi_wp2
   go_end0
   exact ⟨⟨_,V⟩,.inl ⟨_,V,hJs⟩⟩
set_option maxHeartbeats 1000000 in
theorem PG (F:Fence)(n:Nat)(hF:F.fn 220)(uJ:F.round=none)(a:Option Addr)(len cap:Nat)(w:World):
  CallsIn F n Tryz.prog 220 #[.slice a len cap] w λe w' =>e= .returned (.func (.func 221) #[] #[.pointer (some ⟨w.heap.size,0,none⟩)])/\w' =w.alloc (.cells #[.slice a len cap] 267):=by
 refine callsIn_of_wp Tryz.func220 V hF ?_ uJ
 simp only [Tryz.ntmps220,bE,yY,xY,Nat.reduceAdd,Nat.reduceSub,Array.replicate_succ,Array.replicate_zero,List.push_toArray,List.append_toArray,JP,QQ]
 gi_wp2
 go_ret
 exact ⟨V,V⟩
theorem pj (F:Fence)(n:Nat)(hF:F.fn 221)(uJ:F.round=none)(hn:1<=n)(Bs BS:Nat)(s:Sl Wt)(hs3:s.l.length<=3)(w:World)(hBs:Bs<BS)(ztU:BS<=w.heap.size)(hb:∀b,s.on b->b<BS)
  (hc:w.cell? ⟨Bs,0,none⟩=some (.slice s.A s.l.length s.cap)) (hs:s.At w):
  SeqStopsK F n Tryz.prog 221 #[.pointer (some ⟨Bs,0,none⟩)] (λx:Nat×Wt=> #[Value.int .i64 ((x.1:Nat):Int),.agg #[.bool x.2.lock,.int .i64 x.2.wh,.int .i64 x.2.qk]]) (Below BS) (λys=>ys=VE s.l s.l.length)
   (λpre=>∃k,k<=s.l.length/\pre=VE s.l k) s.l.length w:=λl J Jx W hW _ _ hY h0=>
 Mp F n hF uJ hn l Bs BS s hs3 hb J Jx hY W hBs ((hW.cell (p:=⟨Bs,0,none⟩) (by show Bs<w.heap.size;omega)).trans hc) (hs.yB λb xl=>hW.block b (by have:=hb b xl;omega)) h0
end Go.Proofs.YtmjkobhkkjgplaaGreatDoor
namespace Go.Proofs.YtmjkobhkkjgplaaGreatDoor
open Go.RowKit
set_option linter.unusedSimpArgs false
set_option linter.unusedVariables false
set_option maxRecDepth 100000
set_option maxHeartbeats 4000000
theorem zaW {c:Nat}{e:Int}{l:List Int}(h1:l.length=c)(h2:∀i,i<c->nth l i=e):l=List.replicate c e:=by
 refine gi _ _ (by simpa using h1) λi hi=>?_
 rw [h2 i za,Z2 _ _ _ za]
theorem fK (l m:List Int)(n k i:Nat)(h1:n+k<=l.length)(h2:k<=m.length):nth (l.take n++m.take k++l.drop (n+k)) i=if i<n then nth l i else if i<n+k then nth m (i-n) else nth l i:=by
 have e1:(l.take n).length=n:=by rw [vU];omega
 have e2:(m.take k).length=k:=by rw [vU];omega
 have e3:(l.take n++m.take k).length=n+k:=by rw [yX,e1,e2]
 rw [gr,e3]
 by_cases h:i<n+k
 ·rw [if_pos h,gr,e1]
  by_cases h3:i<n
  ·rw [if_pos h3,if_pos h3,XA h3]
  ·rw [if_neg h3,if_neg h3,if_pos h,XA za]
 ·rw [if_neg h,if_neg za,if_neg h,Uh,show n+k+(i-(n+k))=i from za]
theorem NX (x y:Nat)(W:World)(hx:x<=100000)(hy:y<=100000)(EU:x*y<=100000):
    zP Tryz.prog 165 [.int .u64 ((x:Nat):Int),.int .u64 ((y:Nat):Int)] W (λv w' =>v= .tuple #[.int .u64 ((0:Nat):Int),.int .u64 ((x*y:Nat):Int)]/\qM W w' []):=by
 refine gen Tryz.func165 Tryz.ntmps165 (qM.start _:Sh (λ_=>False) W W []) V λjP z7=>gG z7<|sG (oM 2 V<|.nl)<|sG (oM 1 V<|oV (mT (p:=x) V V V (show x<4294967296 from zp)) V<|oM 1 V<|.nl)<|sG (oM 1 V<|oV (RS (p:=x) V V V (show x<4294967296 from zp)) V<|oM 1 V<|.nl)<|sG (oM 1 V<|oV (mT (p:=y) V V V (show y<4294967296 from zp)) V<|oM 1 V<|.nl)<|sG (oM 1 V<|oV (RS (p:=y) V V V (show y<4294967296 from zp)) V<|oM 1 V<|.nl)<|sG (oM 2 V<|oV (Ua (p:=x) (q:=y) (r:=x*y) V V V V (show x*y<18446744073709551616 from zp)) V<|oM 1 V<|.nl)<|sG (oM 2 V<|oV (Ua (p:=0) (q:=y) (r:=0) V V V (by simp) (show 0<18446744073709551616 from zp)) V<|oM 1 V<|oV (RS (p:=x*y) V V V (show x*y<4294967296 from zp)) V<|oV (cm (p:=0) (q:=0) (r:=0) V V V (by simp) (show 0<18446744073709551616 from zp)) V<|oM 1 V<|.nl)<|sG (oM 1 V<|oV (mT (p:=0) V V V (show 0<4294967296 from zp)) V<|oM 1 V<|.nl)<|gF [0,1,6,7,9,11,12] V<|sG (oM 1 V<|oV (RS (p:=0) V V V (show 0<4294967296 from zp)) V<|oM 1 V<|.nl)<|sG (oM 3 V<|oV (Ua (p:=x) (q:=0) (r:=0) V V V (by simp) (show 0<18446744073709551616 from zp)) V<|oV (cm (p:=0) (q:=0) (r:=0) V V V (by simp) (show 0<18446744073709551616 from zp)) V<|oM 1 V<|.nl)<|sG (oM 2 V<|oV (Ua (p:=0) (q:=0) (r:=0) V V V (by simp) (show 0<18446744073709551616 from zp)) V<|oM 1 V<|oV (cm (p:=0) (q:=0) (r:=0) V V V (by simp) (show 0<18446744073709551616 from zp)) V<|oM 1 V<|oV (RS (p:=0) V V V (show 0<4294967296 from zp)) V<|oV (cm (p:=0) (q:=0) (r:=0) V V V (by simp) (show 0<18446744073709551616 from zp)) V<|oM 1 V<|.nl)<|sG (oM 2 V<|oV (Ua (p:=x) (q:=y) (r:=x*y) V V V V (show x*y<18446744073709551616 from zp)) V<|oM 1 V<|.nl)<|gF [4,5] V<|gR<|λa23 tx kq=>WY (fn:=Tryz.f165) (t:=4) (u:=5) V kq V V ?_;clear z7
 exact ⟨V,(kq.sh.zY [] V)⟩
theorem zgA (x y:Nat)(W:World)(hx:x<=100000)(hy:y<=100000)(EU:x*y<=100000):
    zP Tryz.prog 147 [.int .u64 ((x:Nat):Int),.int .u64 ((y:Nat):Int)] W (λv w' =>v= .tuple #[.int .u64 ((0:Nat):Int),.int .u64 ((x*y:Nat):Int)]/\qM W w' []):=by
 refine gen Tryz.func147 Tryz.ntmps147 (qM.start _:Sh (λ_=>False) W W []) V λjP z7=>gG z7<|sG (oM 2 V<|.nl)<|gK λ_ j1=>Q1 V V<|gS<|hK j1<|sK λ_ gu=>zn (oM 2 V<|.nl)<|gP (λ_ _ h_=>gQ h_ zek V (NX x y _ za za za)) V<|zn (oM 1 V<|kK V<|kK V<|oM 2 V<|.nl)<|nK gu<|sG (oM 4 V<|.nl)<|gR<|λBK Hy w9=>WY (fn:=Tryz.f147) (t:=4) (u:=5) V w9 V V ?_;clear z7
 exact ⟨V,(w9.sh.zY [] V)⟩
theorem CF (x:Ls Int)(c:Nat)(W:World)(hx:x.At W)(Sz:x.l.length=1)(hc:c<=1000):
    zP Tryz.prog 124 [x.v,.int .i64 ((c:Nat):Int)] W (λv w' =>∃s:Ls Int,v=s.v/\qM W w' [.own 3 (⟨s.v,List.replicate c (nth x.l 0)⟩:Ls Int)]):=by
 have hxc:x.l.length*c=c:=by rw [Sz,Nat.one_mul]
 refine gen Tryz.func124 Tryz.ntmps124 (qM.ext1 hx:Sh (λ_=>False) W W [.at_ x]) V λjP z7=>gG z7<|sG (oM 1 V<|.nl)<|gK λ_ j1=>sG (oM 1 V<|xk _ 0 V<|.nl)<|?_;clear z7
 refine gcd V (λZo oe=>?_) λZo oe=>?_
 ·skip
  exfalso
  omega
 refine gS<|hK j1<|sK λ_ Xe=>y4 (aA 0 V) λIm=>zn (oM 1 V<|wk zt (aA 0 V) V<|oV (mS Tryz.underlying3 Tryz.underlying143 V V (show x.l.length<18446744073709551616 from zp)) V<|oM 1 V<|oV (mS Tryz.underlying3 Tryz.underlying143 V V (show c<18446744073709551616 from zp)) V<|.nl)<|gP (λ_ _ h_=>gQ h_ zen V (zgA x.l.length c _ za za (by rw [hxc];omega))) V<|zn (oM 1 V<|kK V<|kK V<|oM 2 V<|.nl)<|nK Xe<|λPS Na XU=>?_
 have jc:=XU.same (d:=6) (v' := .int .u64 ((c:Nat):Int)) V (by rw [Sz,Nat.one_mul];rfl)
 clear XU
 refine gG jc<|gK λ_ K7=>sG (oM 1 V<|NU 0 0 V<|oM 1 V<|oG zf (zG V V) V<|oG zf (Ub (p:=c) (q:=9223372036854775807) V V V) V<|Zx zf V<|.nl)<|?_;clear jc
 refine gcd V (λGp cZ=>?_) λGp cZ=>?_
 ·skip
  exfalso
  omega
 refine gS<|hK K7<|sK λ_ V6=>zn (oM 1 V<|oV (Sc Tryz.underlying143 Tryz.underlying3 V V (show c<9223372036854775808 from zp)) V<|.nl)<|xb (λ_ _ h_=>G4 (n:=c) (0:Int) h_ zt zj V V V V V (show 8*c<=140737488355328/\c<=140737488355328 from zp) (λw=>Flat.inner _ _) (λb=>Flat.on _ _) V V) V λv24=>zn (oM 1 V<|.nl)<|nK V6<|gF [0,7] V<|sK λ_ Re=>zn (oM 2 V<|.nl)<|gE (λ_ _ h_=>AS (r:=0) (n:=0) (k:=min x.l.length ((List.replicate c 0).length-0)) (s:=(⟨v24,List.replicate c 0⟩:Ls Int)) (m:=(⟨x.v,x.l⟩:Ls Int)) h_ zt zj V V (.inl ⟨V,V⟩) V V (h_.sh.at 1 V) (show 0<=(List.replicate c 0).length from zp) V V V) V<|zn (oM 1 V<|.nl)<|nK Re<|gK λ_ Rc=>gB<|?_
 have ss:min x.l.length ((List.replicate c (0:Int)).length-0)=if c=0 then 0 else 1:=by rw [Sz,bJ];split<;>omega
 intro mg lW w8
 refine qE (λm a w=>∃(n:Nat) (ro:List Int),(n<=c)/\(ro.length=c)/\(c=0\/1<=n)/\(∀i,i<n->nth ro i=nth x.l 0)/\St 48 (λ_=>False) W a w [(7,v24),(8,.int .i64 ((n:Nat):Int))] [.own 3 (⟨v24,ro⟩:Ls Int),.at_ x]/\m=c-n) ⟨_,min x.l.length ((List.replicate c 0).length-0),(List.replicate c 0).take 0++x.l.take (min x.l.length ((List.replicate c 0).length-0))++(List.replicate c 0).drop (0+min x.l.length ((List.replicate c 0).length-0)),(by rw [ss];split<;>omega),(by simp only [yX,vU,v7,bJ];omega),(by rw [ss];split<;>omega),(λi hi=>by rw [ss] at hi⊢;rw [fK _ _ _ _ _ (by rw [bJ];split<;>omega) (by rw [Sz];split<;>omega),if_neg za,if_pos za,show i-0=0 by split at hi<;>omega]),w8.nf ⟨V,V,trivial⟩,V⟩ ?_
 clear w8
 rintro m28 a28 w28 ⟨n,ro,hn,uJ,hn1,zO,U8,Ib⟩
 refine gG U8<|gK λ_ HH=>sK λ_ lY=>y4 (aO 0 V) λ(zjh:ro.length<=140737488355328)=>zn (oM 2 V<|wk (n:=ro.length) zt (aO 0 V) V<|xk _ _ V<|.nl)<|nK lY<|?_;clear U8
 refine gcd V (λQY cX=>?_) λQY cX=>?_
 ·skip
  refine gS<|hK HH<|gB<|rT 7 [0] (oM 3 V<|oV (fj (s:=(⟨v24,ro⟩:Ls Int)) (k:=n) zt zj V V V (λw h=>(h.own 0 V)) (show n<=ro.length from zp)) V<|oM 2 V<|oV (CK (s:=(⟨v24,ro⟩:Ls Int)) (j:=n) zt zj V V V (λw h=>(h.own 0 V)) (show n<=ro.length from zp) (show 0<ro.length from zp)) V<|.nl)<|gE (λ_ _ h_=>AS (r:=0) (n:=n) (k:=min (ro.take n).length (ro.length-n)) (s:=(⟨v24,ro⟩:Ls Int)) (m:=(⟨(kC v24 n),(ro.take n)⟩:Ls Int)) h_ zt zj V V (.inr V) V V (Np (h_.sh.own 0 V) (show n<=ro.length from zp)) (show n<=ro.length from zp) V V V) V<|zn (yl _ _ (show n+(min (ro.take n).length (ro.length-n))<9223372036854775808 from zp) V<|oM 1 V<|.nl)<|nN<|λa35 ME Yz=>?_
  change∃_m,_m<_/\_
  refine ⟨_,?_,n+(min (ro.take n).length (ro.length-n)),ro.take n++(ro.take n).take (min (ro.take n).length (ro.length-n))++ro.drop (n+min (ro.take n).length (ro.length-n)),?_,?_,?_,?_,Yz.nf ⟨V,V,trivial⟩,V⟩
  · rw [Ib];rw [vU,uJ];omega
  · rw [vU,uJ] at*;omega
  · simp only [yX,vU,v7,uJ];omega
  · omega
  · intro i hi;rw [vU,uJ] at hi⊢;rw [fK _ _ _ _ _ (by rw [uJ];omega) (by rw [vU,uJ];omega)];split;(exact zO i zc);(try rw [if_pos za]);rw [XA za];exact zO _ za
 refine gX<|hK Rc<|sG (oM 2 V<|.nl)<|gR<|λa37 w37 KF=>zu (fn:=Tryz.f124) (t:=4) V KF V ?_
 have he9:ro=List.replicate c (nth x.l 0):=zaW uJ (λi hi=>zO i za)
 rw [he9] at KF
 exact ⟨⟨v24,[]⟩,V,(KF.sh.zY [0] V)⟩
theorem cu (words:Ls Int)(Lk:Nat)(cv:Value)(z8:Int)(W:World)(yo:words.At W)(aV:words.l.length<=64)(gv:Lk<=4):
    zP Tryz.prog 81 [.agg #[cv,words.v,.int .i64 ((Lk:Nat):Int),.int .i64 z8]] W (λv w' =>∃(g:Nat) (zB zA:Ls Int),v= .pointer (some ⟨g,0,none⟩)/\zB.l=words.l/\zA.l=List.replicate Lk (-1)/\qM W w' [.zM g 182 [zB.v,zA.v],.own 3 zB,.own 3 zA]):=by
 refine gen Tryz.func81 Tryz.ntmps81 (qM.ext1 yo:Sh (λ_=>False) W W [.at_ words]) V λjP z7=>gG z7<|sK λ_ kz=>XV V V λxX=>zn (oM 1 V<|.nl)<|nK kz<|gK λ_ gu=>gF [0,1] V<|λee BN xd=>Wz ((λΦ Ψ S a w=>(S 2=false/\S 3=false/\S 6=false/\S 8=false/\kH 12 S Φ Ψ a/\Sh (λ_=>False) W w [.zM xX 25 [cv,words.v,.int .i64 ((Lk:Nat):Int),.int .i64 z8],.at_ words])\/(S 2=true/\S 3=false/\S 6=false/\S 8=false/\∃(xy:Ls Int),kH 12 S Φ (Ψ++ [(2,5,xy.v)]) a/\Sh (λ_=>False) W w [.own 3 (⟨xy.v,words.l⟩:Ls Int),.zM xX 25 [cv,words.v,.int .i64 ((Lk:Nat):Int),.int .i64 z8],.at_ words])\/(S 2=false/\S 3=true/\S 6=false/\S 8=false/\∃(xN:Value),kH 12 S Φ (Ψ++ [(3,6,xN)]) a/\Sh (λ_=>False) W w [.own 3 (⟨xN,[(-1)]⟩:Ls Int),.zM xX 25 [cv,words.v,.int .i64 ((Lk:Nat):Int),.int .i64 z8],.at_ words])\/(S 2=true/\S 3=true/\S 6=false/\S 8=false/\∃(xy:Ls Int) (xN:Value),kH 12 S Φ (Ψ++ [(2,5,xy.v),(3,6,xN)]) a/\Sh (λ_=>False) W w [.own 3 (⟨xN,[(-1)]⟩:Ls Int),.own 3 (⟨xy.v,words.l⟩:Ls Int),.zM xX 25 [cv,words.v,.int .i64 ((Lk:Nat):Int),.int .i64 z8],.at_ words])\/(S 2=true/\S 3=true/\S 6=true/\S 8=false/\∃(xy:Ls Int) (xN:Value) (gA:Ls Int),kH 12 S Φ (Ψ++ [(2,5,xy.v),(3,6,xN),(6,9,gA.v),(7,10,.agg #[xy.v,gA.v])]) a/\Sh (λ_=>False) W w [.own 3 (⟨gA.v,List.replicate Lk (nth ([(-1)]) 0)⟩:Ls Int),.own 3 (⟨xN,[(-1)]⟩:Ls Int),.own 3 (⟨xy.v,words.l⟩:Ls Int),.zM xX 25 [cv,words.v,.int .i64 ((Lk:Nat):Int),.int .i64 z8],.at_ words])\/(S 2=true/\S 3=true/\S 6=true/\S 8=true/\∃(xy:Ls Int) (xN:Value) (gA:Ls Int) (Bd:Nat),kH 12 S Φ (Ψ++ [(2,5,xy.v),(3,6,xN),(6,9,gA.v),(7,10,.agg #[xy.v,gA.v]),(8,11,.pointer (some ⟨Bd,0,none⟩)),(9,2,.pointer (some ⟨Bd,0,none⟩))]) a/\Sh (λ_=>False) W w [.zM Bd 182 [xy.v,gA.v],.own 3 (⟨gA.v,List.replicate Lk (nth ([(-1)]) 0)⟩:Ls Int),.own 3 (⟨xN,[(-1)]⟩:Ls Int),.own 3 (⟨xy.v,words.l⟩:Ls Int),.zM xX 25 [cv,words.v,.int .i64 ((Lk:Nat):Int),.int .i64 z8],.at_ words])) [(0,.agg #[cv,words.v,.int .i64 ((Lk:Nat):Int),.int .i64 z8]),(1,.pointer (some ⟨xX,0,none⟩))] [(0,3,.pointer (some ⟨xX,1,none⟩)),(1,4,words.v),(4,7,.pointer (some ⟨xX,2,none⟩)),(5,8,.int .i64 ((Lk:Nat):Int))]) zb zb (Or.inl (⟨V,V,V,V,kH.start xd.fr,xd.sh.drew⟩)) ?_ ?_;clear z7
 ·intro S i o ho qn qg zX a w hI
  clear xd
  rcases i with _|_|_|_|_|_|_|_|_|_|i
  ·obtain rfl:_=o:=qA ho
   rcases hI with ⟨yj,jE,k8,Qz,φ,ς⟩|⟨yj,_⟩|⟨yj,jE,k8,Qz,xN,φ,ς⟩|⟨yj,_⟩|⟨yj,_⟩|⟨yj,_⟩
   ·exact sq φ φ.yv ς (zT (r:=1) Gz V V V) 0 V V V V V V λa hg=>Or.inl (⟨un V yj,un V jE,un V k8,un V Qz,hg,ς⟩)
   ·exact zh (cA qg 2 0 V yj) qn
   ·exact sq φ φ.yv ς (zT (r:=1) Gz V V V) 0 V V V V V V λa hg=>Or.inr (Or.inr (Or.inl (⟨un V yj,un V jE,un V k8,un V Qz,xN,hg,ς⟩)))
   ·exact zh (cA qg 2 0 V yj) qn
   ·exact zh (cA qg 2 0 V yj) qn
   ·exact zh (cA qg 2 0 V yj) qn
  ·obtain rfl:_=o:=qA ho
   have BE:S 0=true:=zK zX 0 V V
   rcases hI with ⟨yj,jE,k8,Qz,φ,ς⟩|⟨yj,_⟩|⟨yj,jE,k8,Qz,xN,φ,ς⟩|⟨yj,_⟩|⟨yj,_⟩|⟨yj,_⟩
   ·exact sq φ (Fr.cons φ.yv (φ.at_ 0 0 3 _ V BE)) ς (xV (i:=0) zV V V V V) 1 V V V V V V λa hg=>Or.inl (⟨un V yj,un V jE,un V k8,un V Qz,hg,ς⟩)
   ·exact zh (cA qg 2 1 V yj) qn
   ·exact sq φ (Fr.cons φ.yv (φ.at_ 0 0 3 _ V BE)) ς (xV (i:=1) zV V V V V) 1 V V V V V V λa hg=>Or.inr (Or.inr (Or.inl (⟨un V yj,un V jE,un V k8,un V Qz,xN,hg,ς⟩)))
   ·exact zh (cA qg 2 1 V yj) qn
   ·exact zh (cA qg 2 1 V yj) qn
   ·exact zh (cA qg 2 1 V yj) qn
  ·obtain rfl:_=o:=qA ho
   have Wo:S 1=true:=zK zX 0 V V
   rcases hI with ⟨yj,jE,k8,Qz,φ,ς⟩|⟨yj,_⟩|⟨yj,jE,k8,Qz,xN,φ,ς⟩|⟨yj,_⟩|⟨yj,_⟩|⟨yj,_⟩
   ·have hs:=St.mk (Fr.cons φ.yv (φ.at_ 1 1 4 _ V Wo)) ς
    refine yG (zD hs Hk V V V V V (Qv words _ (hs.sh.at 1 V) (by first|omega|(simp only [qf];omega)))) (zg V _) ?_
    rintro a24 dN ⟨_,⟨s24,rfl,Gd⟩,DE⟩ ⟨v0,zb2⟩
    have wJ:St _ (λ_=>False) W a24 dN _ _:=⟨DE,hs.sh.Hj Gd⟩
    clear DE Gd
    exact Or.inr (Or.inl (⟨qV _ _,un V jE,un V k8,un V Qz,s24,φ.wU qg qn [0,1,2,3] zb zb zb2 wJ.fr.defers (wJ.fr.at_ 5 _ V) 4 V V V V,(wJ.sh.zY [0,1,2] V)⟩))
   ·exact zh yj qn
   ·have hs:=St.mk (Fr.cons φ.yv (φ.at_ 1 1 4 _ V Wo)) ς
    refine yG (zD hs Hk V V V V V (Qv words _ (hs.sh.at 2 V) (by first|omega|(simp only [qf];omega)))) (zg V _) ?_
    rintro a25 tw ⟨_,⟨s25,rfl,HJ⟩,DD⟩ ⟨v0,zb1⟩
    have Wu:St _ (λ_=>False) W a25 tw _ _:=⟨DD,hs.sh.Hj HJ⟩
    clear DD HJ
    exact Or.inr (Or.inr (Or.inr (Or.inl (⟨qV _ _,un V jE,un V k8,un V Qz,s25,xN,φ.wU qg qn [0,1,2,3,5] zb zb zb1 Wu.fr.defers (Wu.fr.at_ 5 _ V) 4 V V V V,(Wu.sh.zY [1,0,2,3] V)⟩))))
   ·exact zh yj qn
   ·exact zh yj qn
   ·exact zh yj qn
  ·obtain rfl:_=o:=qA ho
   rcases hI with ⟨yj,jE,k8,Qz,φ,ς⟩|⟨yj,jE,k8,Qz,xy,φ,ς⟩|⟨_,jE,_⟩|⟨_,jE,_⟩|⟨_,jE,_⟩|⟨_,jE,_⟩
   ·have hs:=St.mk φ.yv ς
    refine yG (qF (n:=1) (cs:= [.int .i64 (-1)]) ([(-1)]:List Int) hs zt zj V V V zf V zb V (λq hq w h=>Flat.inner _ _) (λq hq b hb=>(Flat.on _ _ hb).elim) V V) (zg V _) ?_
    rintro a26 lX ⟨v26,Y0⟩ ⟨v0,zb0⟩
    exact Or.inr (Or.inr (Or.inl (⟨un V yj,qV _ _,un V k8,un V Qz,v26,φ.wU qg qn [0,1,2,3] zb zb zb0 Y0.fr.defers (Y0.fr.at_ 6 _ V) 4 V V V V,(Y0.sh.zY [0,1,2] V)⟩)))
   ·have hs:=St.mk φ.yv ς
    refine yG (qF (n:=1) (cs:= [.int .i64 (-1)]) ([(-1)]:List Int) hs zt zj V V V zf V zb V (λq hq w h=>Flat.inner _ _) (λq hq b hb=>(Flat.on _ _ hb).elim) V V) (zg V _) ?_
    rintro MW MG ⟨v27,Ko⟩ ⟨v0,zpH⟩
    exact Or.inr (Or.inr (Or.inr (Or.inl (⟨un V yj,qV _ _,un V k8,un V Qz,xy,v27,φ.wU qg qn [0,1,2,3,4] zb zb zpH Ko.fr.defers (Ko.fr.at_ 6 _ V) 5 V V V V,(Ko.sh.zY [0,1,2,3] V)⟩))))
   ·exact zh jE qn
   ·exact zh jE qn
   ·exact zh jE qn
   ·exact zh jE qn
  ·obtain rfl:_=o:=qA ho
   rcases hI with ⟨yj,jE,k8,Qz,φ,ς⟩|⟨yj,jE,k8,Qz,xy,φ,ς⟩|⟨yj,jE,k8,Qz,xN,φ,ς⟩|⟨yj,jE,k8,Qz,xy,xN,φ,ς⟩|⟨_,_,k8,_⟩|⟨_,_,k8,_⟩
   ·exact sq φ φ.yv ς (zT (r:=2) Wb V V V) 2 V V V V V V λa hg=>Or.inl (⟨un V yj,un V jE,un V k8,un V Qz,hg,ς⟩)
   ·exact sq φ φ.yv ς (zT (r:=2) Wb V V V) 2 V V V V V V λa hg=>Or.inr (Or.inl (⟨un V yj,un V jE,un V k8,un V Qz,xy,hg,ς⟩))
   ·exact sq φ φ.yv ς (zT (r:=2) Wb V V V) 2 V V V V V V λa hg=>Or.inr (Or.inr (Or.inl (⟨un V yj,un V jE,un V k8,un V Qz,xN,hg,ς⟩)))
   ·exact sq φ φ.yv ς (zT (r:=2) Wb V V V) 2 V V V V V V λa hg=>Or.inr (Or.inr (Or.inr (Or.inl (⟨un V yj,un V jE,un V k8,un V Qz,xy,xN,hg,ς⟩))))
   ·exact zh (cA qg 6 4 V k8) qn
   ·exact zh (cA qg 6 4 V k8) qn
  ·obtain rfl:_=o:=qA ho
   have XG:S 4=true:=zK zX 0 V V
   rcases hI with ⟨yj,jE,k8,Qz,φ,ς⟩|⟨yj,jE,k8,Qz,xy,φ,ς⟩|⟨yj,jE,k8,Qz,xN,φ,ς⟩|⟨yj,jE,k8,Qz,xy,xN,φ,ς⟩|⟨_,_,k8,_⟩|⟨_,_,k8,_⟩
   ·exact sq φ (Fr.cons φ.yv (φ.at_ 2 4 7 _ V XG)) ς (xV (i:=0) zj V V V V) 3 V V V V V V λa hg=>Or.inl (⟨un V yj,un V jE,un V k8,un V Qz,hg,ς⟩)
   ·exact sq φ (Fr.cons φ.yv (φ.at_ 2 4 7 _ V XG)) ς (xV (i:=1) zj V V V V) 3 V V V V V V λa hg=>Or.inr (Or.inl (⟨un V yj,un V jE,un V k8,un V Qz,xy,hg,ς⟩))
   ·exact sq φ (Fr.cons φ.yv (φ.at_ 2 4 7 _ V XG)) ς (xV (i:=1) zj V V V V) 3 V V V V V V λa hg=>Or.inr (Or.inr (Or.inl (⟨un V yj,un V jE,un V k8,un V Qz,xN,hg,ς⟩)))
   ·exact sq φ (Fr.cons φ.yv (φ.at_ 2 4 7 _ V XG)) ς (xV (i:=2) zj V V V V) 3 V V V V V V λa hg=>Or.inr (Or.inr (Or.inr (Or.inl (⟨un V yj,un V jE,un V k8,un V Qz,xy,xN,hg,ς⟩))))
   ·exact zh (cA qg 6 5 V k8) qn
   ·exact zh (cA qg 6 5 V k8) qn
  ·obtain rfl:_=o:=qA ho
   have Wn:S 3=true:=zK zX 0 V V
   have Kk:S 5=true:=zK zX 1 V V
   have QI:S 2=true:=zK zX 2 V V
   rcases hI with ⟨yj,_⟩|⟨_,jE,_⟩|⟨yj,_⟩|⟨yj,jE,k8,Qz,xy,xN,φ,ς⟩|⟨_,_,k8,_⟩|⟨_,_,k8,_⟩
   ·exact zh QI yj
   ·exact zh Wn jE
   ·exact zh QI yj
   ·have hs:=St.mk (Fr.cons (Fr.cons φ.yv (φ.at_ 5 3 6 _ V Wn)) (φ.at_ 3 5 8 _ V Kk)) ς
    refine yG (zD hs zer V V V V V (CF (⟨xN,[(-1)]⟩:Ls Int) Lk _ (hs.sh.own 0 V) V za)) (zg V _) ?_
    rintro py lV ⟨_,⟨s36,rfl,im⟩,IL⟩ ⟨v0,nM⟩
    have QJ:St _ (λ_=>False) W py lV _ _:=⟨IL,hs.sh.Hj im⟩
    clear IL im
    exact Or.inr (Or.inr (Or.inr (Or.inr (Or.inl (⟨un V yj,un V jE,qV _ _,un V Qz,xy,xN,s36,φ.wU qg qn [0,1,2,3,4,5] zb zb nM QJ.fr.defers (QJ.fr.at_ 9 _ V) 6 V V V V,(QJ.sh.zY [0,1,2,3,4] V)⟩)))))
   ·exact zh k8 qn
   ·exact zh k8 qn
  ·obtain rfl:_=o:=qA ho
   have QI:S 2=true:=zK zX 0 V V
   have Uw:S 6=true:=zK zX 1 V V
   rcases hI with ⟨yj,_⟩|⟨_,jE,_⟩|⟨yj,_⟩|⟨_,_,k8,_⟩|⟨yj,jE,k8,Qz,xy,xN,gA,φ,ς⟩|⟨_,_,_,Qz,_⟩
   ·exact zh QI yj
   ·exact zh (cA qg 6 3 V Uw) jE
   ·exact zh QI yj
   ·exact zh Uw k8
   ·exact sq φ (Fr.cons (Fr.cons φ.yv (φ.at_ 4 2 5 _ V QI)) (φ.at_ 6 6 9 _ V Uw)) ς (xW (cs:= [xy.v,gA.v]) V V (λw h=>by obtain ⟨A38,n38,c38,(e38:gA.v=_)⟩:=((h.own 0 V)).form;rw [e38];obtain ⟨A37,n37,c37,(e37:xy.v=_)⟩:=((h.own 2 V)).form;rw [e37];kernel_rfl)) 7 V V V V V V λa hg=>Or.inr (Or.inr (Or.inr (Or.inr (Or.inl (⟨un V yj,un V jE,un V k8,un V Qz,xy,xN,gA,hg,ς⟩)))))
   ·exact zh (cA qg 8 7 V Qz) qn
  ·obtain rfl:_=o:=qA ho
   have Gn:S 7=true:=zK zX 0 V V
   rcases hI with ⟨yj,_⟩|⟨_,jE,_⟩|⟨yj,_⟩|⟨_,_,k8,_⟩|⟨yj,jE,k8,Qz,xy,xN,gA,φ,ς⟩|⟨_,_,_,Qz,_⟩
   ·exact zh (cA qg 7 2 V Gn) yj
   ·exact zh (cA qg 7 3 V Gn) jE
   ·exact zh (cA qg 7 2 V Gn) yj
   ·exact zh (cA qg 7 6 V Gn) k8
   ·have hs:=St.mk (Fr.cons φ.yv (φ.at_ 7 7 10 _ V Gn)) ς
    refine yG (ai (cs:= [xy.v,gA.v]) hs V V V V V) (zg V _) ?_
    rintro a40 mr ⟨b40,YO⟩ ⟨v0,zpz⟩
    exact Or.inr (Or.inr (Or.inr (Or.inr (Or.inr (⟨un V yj,un V jE,un V k8,qV _ _,xy,xN,gA,b40,φ.wU qg qn [0,1,2,3,4,5,6,7] zb zb zpz YO.fr.defers (YO.fr.at_ 11 _ V) 8 V V V V,(YO.sh.zY [0,1,2,3,4,5] V)⟩)))))
   ·exact zh Qz qn
  ·obtain rfl:_=o:=qA ho
   have AF:S 8=true:=zK zX 0 V V
   have Uw:S 6=true:=zK zX 1 V V
   have QI:S 2=true:=zK zX 4 V V
   have Wn:S 3=true:=zK zX 5 V V
   rcases hI with ⟨yj,_⟩|⟨_,jE,_⟩|⟨yj,_⟩|⟨_,_,k8,_⟩|⟨_,_,_,Qz,_⟩|⟨yj,jE,k8,Qz,xy,xN,gA,Bd,φ,ς⟩
   ·exact zh QI yj
   ·exact zh Wn jE
   ·exact zh QI yj
   ·exact zh Uw k8
   ·exact zh AF Qz
   ·exact sq φ (Fr.cons φ.yv (φ.at_ 8 8 11 _ V AF)) ς (Zd V V) 9 V V V V V V λa hg=>Or.inr (Or.inr (Or.inr (Or.inr (Or.inr (⟨un V yj,un V jE,un V k8,un V Qz,xy,xN,gA,Bd,hg,ς⟩)))))
  · simp at ho
 intro S zO a w hI
 clear xd
 rcases hI with ⟨yj,jE,k8,Qz,φ,ς⟩|⟨yj,jE,k8,Qz,xy,φ,ς⟩|⟨yj,jE,k8,Qz,xN,φ,ς⟩|⟨yj,jE,k8,Qz,xy,xN,φ,ς⟩|⟨yj,jE,k8,Qz,xy,xN,gA,φ,ς⟩|⟨yj,jE,k8,Qz,xy,xN,gA,Bd,φ,ς⟩
 · exact zh (zO 2 zf) yj
 · exact zh (zO 3 zf) jE
 · exact zh (zO 2 zf) yj
 · exact zh (zO 6 zf) k8
 · exact zh (zO 8 zf) Qz
 have WM:St 12 (λ_=>False) W a w _ _:=⟨(Fr.cons φ.yv (φ.at_ 9 9 2 _ V (zO 9 zf))),ς⟩
 clear zO φ ς yj jE k8 Qz
 refine gG WM<|hK gu<|gR<|λPQ MD J2=>zu (fn:=Tryz.f81) (t:=2) V J2 V ?_;clear WM
 exact ⟨Bd,⟨xy.v,words.l⟩,⟨gA.v,List.replicate Lk (nth ([(-1)]) 0)⟩,V,V,V,(J2.sh.zY [0,3,1] V)⟩
theorem fx (g:Nat)(words owner:Ls Int)(t a b:Int)(W:World)(hB:xB W g 182 #[words.v,owner.v])(hw:words.At W)(ho:owner.At W)(ha:0<=a/\a<words.l.length):
    zP Tryz.prog 202 [.pointer (some ⟨g,0,none⟩),.int .i64 t,.int .i64 a] W (λv w' =>v= .int .i64 (nth words.l a.toNat)/\qM W w' []):=by
 refine gen Tryz.func202 Tryz.ntmps202 (qM.ext (by intro A hA;simp only [z6,qd,or_false] at hA;rcases hA with rfl|rfl|rfl;exact hB;exact hw;exact ho) (by intro A hA b hb;simp only [z6,qd,or_false] at hA;rcases hA with rfl|rfl|rfl<;>exact hb):Sh (λ_=>False) W W [.zx g 182 [words.v,owner.v],.at_ words,.at_ owner]) V λjP z7=>gG z7<|sG (oM 1 V<|.nl)<|sK λ_ j1=>y4 (aA 1 V) λc7=>zn (oM 1 V<|jA kW V<|w7 0 zV V V<|oM 1 V<|vC zt zj (aA 1 V) zp V<|wx zj (aA 1 V) zp V<|oM 1 V<|.nl)<|nK j1<|gR<|λee BN xd=>zu (fn:=Tryz.f202) (t:=6) V xd V ?_;clear z7
 exact ⟨V,(xd.sh.zY [] V)⟩
theorem fy (g:Nat)(words owner:Ls Int)(t a b:Int)(W:World)(hB:xB W g 182 #[words.v,owner.v])(hw:words.At W)(ho:owner.At W):
    zP Tryz.prog 201 [.pointer (some ⟨g,0,none⟩),.int .i64 t,.int .i64 a] W (λv w' =>v= .bool false/\qM W w' []):=by
 refine gen Tryz.func201 Tryz.ntmps201 (qM.ext (by intro A hA;simp only [z6,qd,or_false] at hA;rcases hA with rfl|rfl|rfl;exact hB;exact hw;exact ho) (by intro A hA b hb;simp only [z6,qd,or_false] at hA;rcases hA with rfl|rfl|rfl<;>exact hb):Sh (λ_=>False) W W [.zx g 182 [words.v,owner.v],.at_ words,.at_ owner]) V λjP z7=>gG z7<|sG (oM 1 V<|.nl)<|sG (oM 1 V<|.nl)<|gR<|λPW A0 QO=>zu (fn:=Tryz.f201) (t:=6) V QO V ?_;clear z7
 exact ⟨V,(QO.sh.zY [] V)⟩
theorem ub (g:Nat)(words owner:Ls Int)(t a b:Int)(W:World)(hB:xB W g 182 #[words.v,owner.v])(hw:words.At W)(ho:owner.At W):
    zP Tryz.prog 207 [.pointer (some ⟨g,0,none⟩),.int .i64 t] W (λv w' =>v= .int .i64 ((0:Nat):Int)/\qM W w' []):=by
 refine gen Tryz.func207 Tryz.ntmps207 (qM.ext (by intro A hA;simp only [z6,qd,or_false] at hA;rcases hA with rfl|rfl|rfl;exact hB;exact hw;exact ho) (by intro A hA b hb;simp only [z6,qd,or_false] at hA;rcases hA with rfl|rfl|rfl<;>exact hb):Sh (λ_=>False) W W [.zx g 182 [words.v,owner.v],.at_ words,.at_ owner]) V λjP z7=>gG z7<|sG (oM 1 V<|.nl)<|sG (oM 1 V<|.nl)<|gR<|λPW A0 QO=>zu (fn:=Tryz.f207) (t:=4) V QO V ?_;clear z7
 exact ⟨V,(QO.sh.zY [] V)⟩
theorem uc (g:Nat)(words owner:Ls Int)(t a b:Int)(W:World)(hB:xB W g 182 #[words.v,owner.v])(hw:words.At W)(ho:owner.At W):
    zP Tryz.prog 203 [.pointer (some ⟨g,0,none⟩),.int .i64 t] W (λv w' =>v= .slice none 0 0/\qM W w' []):=by
 refine gen Tryz.func203 Tryz.ntmps203 (qM.ext (by intro A hA;simp only [z6,qd,or_false] at hA;rcases hA with rfl|rfl|rfl;exact hB;exact hw;exact ho) (by intro A hA b hb;simp only [z6,qd,or_false] at hA;rcases hA with rfl|rfl|rfl<;>exact hb):Sh (λ_=>False) W W [.zx g 182 [words.v,owner.v],.at_ words,.at_ owner]) V λjP z7=>gG z7<|sG (oM 1 V<|.nl)<|sG (oM 1 V<|.nl)<|gR<|λPW A0 QO=>zu (fn:=Tryz.f203) (t:=4) V QO V ?_;clear z7
 exact ⟨V,(QO.sh.zY [] V)⟩
theorem fA (g:Nat)(words owner:Ls Int)(t a b:Int)(W:World)(hB:xB W g 182 #[words.v,owner.v])(hw:words.At W)(ho:owner.At W):
    zP Tryz.prog 197 [.pointer (some ⟨g,0,none⟩)] W (λv w' =>v= .pointer (some ⟨g,0,none⟩)/\qM W w' []):=by
 refine gen Tryz.func197 Tryz.ntmps197 (qM.ext (by intro A hA;simp only [z6,qd,or_false] at hA;rcases hA with rfl|rfl|rfl;exact hB;exact hw;exact ho) (by intro A hA b hb;simp only [z6,qd,or_false] at hA;rcases hA with rfl|rfl|rfl<;>exact hb):Sh (λ_=>False) W W [.zx g 182 [words.v,owner.v],.at_ words,.at_ owner]) V λjP z7=>gG z7<|sG (oM 1 V<|.nl)<|sG (oM 2 V<|.nl)<|gR<|λPW A0 QO=>zu (fn:=Tryz.f197) (t:=2) V QO V ?_;clear z7
 exact ⟨V,(QO.sh.zY [] V)⟩
theorem aF (K:Nat->Prop)(g:Nat)(words owner:Ls Int)(t a b:Int)(W:World)(hS:Sh K W W [.zM g 182 [words.v,owner.v],.own 3 words,.own 3 owner])(ha:0<=a/\a<words.l.length):
    zP Tryz.prog 204 [.pointer (some ⟨g,0,none⟩),.int .i64 t,.int .i64 a,.int .i64 b] W (λv w' =>v= .tuple #[]/\Sh K W w' [.zM g 182 [words.v,owner.v],.own 3 (⟨words.v,words.l.set a.toNat b⟩:Ls Int),.own 3 (⟨owner.v,owner.l⟩:Ls Int)]):=by
 refine gen Tryz.func204 Tryz.ntmps204 hS V λjP z7=>gG z7<|gL<|y4 (aO 1 V) λzjl=>zn (oM 1 V<|yb 0 kW zV V V<|oM 2 V<|vC zt zj (aO 1 V) zp V<|.nl)<|XK 1 (b:Int) zj zp V V<|nN<|λPW A0 QO=>?_;clear z7
 try simp only [Exit.then,Exit.inBlock,if_true]
 refine qj (fn:=Tryz.f204) V QO ?_
 exact ⟨V,QO.sh⟩
theorem fw (K:Nat->Prop)(g:Nat)(words owner:Ls Int)(t a b:Int)(W:World)(hS:Sh K W W [.zM g 182 [words.v,owner.v],.own 3 words,.own 3 owner])(ha:0<=a/\a<words.l.length):
    zP Tryz.prog 205 [.pointer (some ⟨g,0,none⟩),.int .i64 t,.int .i64 a,.int .i64 b] W (λv w' =>v= .tuple #[]/\Sh K W w' [.zM g 182 [words.v,owner.v],.own 3 (⟨words.v,words.l.set a.toNat b⟩:Ls Int),.own 3 (⟨owner.v,owner.l⟩:Ls Int)]):=by
 refine gen Tryz.func205 Tryz.ntmps205 hS V λjP z7=>gG z7<|gL<|y4 (aO 1 V) λzjl=>zn (oM 1 V<|yb 0 kW zV V V<|oM 2 V<|vC zt zj (aO 1 V) zp V<|.nl)<|XK 1 (b:Int) zj zp V V<|nN<|λPW A0 QO=>?_;clear z7
 try simp only [Exit.then,Exit.inBlock,if_true]
 refine qj (fn:=Tryz.f205) V QO ?_
 exact ⟨V,QO.sh⟩
theorem fz (K:Nat->Prop)(g:Nat)(words owner:Ls Int)(t a b:Int)(W:World)(hS:Sh K W W [.zM g 182 [words.v,owner.v],.own 3 words,.own 3 owner])(ha:0<=a/\a<owner.l.length):
    zP Tryz.prog 200 [.pointer (some ⟨g,0,none⟩),.int .i64 t,.int .i64 a] W (λv w' =>v= .tuple #[]/\Sh K W w' [.zM g 182 [words.v,owner.v],.own 3 (⟨words.v,words.l⟩:Ls Int),.own 3 (⟨owner.v,owner.l.set a.toNat (-1)⟩:Ls Int)]):=by
 refine gen Tryz.func200 Tryz.ntmps200 hS V λjP z7=>gG z7<|gL<|y4 (aO 2 V) λzjl=>zn (oM 1 V<|yb 0 Zp zV V V<|oM 1 V<|vC zt zj (aO 2 V) zp V<|.nl)<|XK 2 ((-1):Int) zj zp V V<|nN<|λPW A0 QO=>?_;clear z7
 try simp only [Exit.then,Exit.inBlock,if_true]
 refine qj (fn:=Tryz.f200) V QO ?_
 exact ⟨V,QO.sh⟩
end Go.Proofs.YtmjkobhkkjgplaaGreatDoor
namespace Go.Proofs.YtmjkobhkkjgplaaGreatDoor
open Go.RowKit Go.Shelf
set_option linter.unusedSimpArgs false
set_option linter.unusedVariables false
attribute [local go_sem] Oper.semAt_some zga zeH LS LR LQ AY
@[local go_sem] theorem zlz (x:Ls Wt) (j:Nat):zz.cell x j=x.v:=rfl
@[local go_sem] theorem zn0:zz.sz (Ls Wt)=1:=rfl
def NoM (wd:Int)(pre:List (Nat×Wt)):Prop:=∀x∈pre,¬(x.2.lock=false/\x.2.wh=wd)
def ztc (wd:Int)(pre:List (Nat×Wt))(qk:Int):Prop:=∃zbb x,pre=zbb++ [x]/\NoM wd zbb/\x.2.lock=false/\x.2.wh=wd/\x.2.qk=qk
theorem fP {wd:Int}{pre:List (Nat×Wt)}{x:Nat×Wt}(h:NoM wd pre)(hx:¬(x.2.lock=false/\x.2.wh=wd)):NoM wd (pre++ [x]):=λy hy=>by
 rcases List.mem_append.1 hy with hy|hy
 ·exact h y hy
 ·obtain rfl:y=x:=by simpa using hy
  exact hx
theorem PE {β:Type}(B:Nat)(t:TypeId)(f:β->Array Value):Own (λs W=>xB W B t (f s)):=λs X Y row hs hg Oy=>by
 refine (hg.block B hs.lt ?_).trans hs
 intro e'
 obtain ⟨o,ho,hc⟩:=Oy B e'.symm
 rw [show X.heap[B]? =_ from hs] at ho
 cases ho
 cases hc
theorem MX {P:Program}{Q:Exit->Act->World->Prop}{C:World->Prop}{a:Act}{w:World}{id:Nat}{l:List Oper}(m:Nat)(ps:List Nat)(hm:P.follows .mixedOrders=true)(hB:RJ l m ps=true)(hC:C w.drew)(hl:ZF l.toArray ps++ZF l.toArray (we m ps)=l.take m)
  (k:∀Z:Act->Prop,(∀a',(∀w',C w' ->wpList P l.toArray (λe a w=>match e with| .normal=>Q .normal a w|_=>False) (l.drop m) a' w')->Z a')->wpQuiet P l.toArray C Z (l.take m) a):(Code.region id l.toArray true).wp P Q a w:=by
 rw [<-hl] at k
 simp only [RJ,qI,Jy] at hB
 obtain ⟨h1,h2,h3,h4,h5,h6,h7⟩:=hB
 have Az:∀p∈ps,p<m:=λp hp=>by simpa using (List.all_eq_true.1 h5) p hp
 refine Code.wp_mono (Q:=λe a w=>match e with| .normal=>Q .normal a w|_=>False) (λe a w he=>by cases e<;>first|exact he|exact he.elim) ?_
 refine wp_region_any hm ?_
 split at h7
 ·rename_i lp Tf
  have hq:=k _ (λ_ h=>h)
  have IW:jw l (λj=>(Array.replicate l.length false).getD j false):=by
   intro i o _ hS;simp only [x7,Bq] at hS;split at hS<;>cases hS
  obtain ⟨c1,c2,c3,c4,c5⟩:=YV ps _ lp Tf IW
  have x3:lp.size=l.length:=by simpa using c2
  have hlen:l.toArray.size=((we m ps).length+(l.length-m))+ps.length:=by
   have:=XS h6
   simp;omega
  rw [hlen]
  rw [show Array.replicate ((we m ps).length+(l.length-m)+ps.length) false=Array.replicate l.length false by rw [<-hlen];simp]
  refine GO (C:=C) h4 (λc a w h=>h) ps _ _ lp a w.drew hC Tf hq λa' Vq=>?_
  have h8:=Rv (P:=P) h4 (we m ps) _ a' h7 Vq
  have S5:∀j,j<l.length->(ZP lp m).getD j false=(lp.getD j false||Nat.ble m j):=by
   intro j hj
   simp [ZP,x7,x3,hj]
  refine Bj (C:=C) Az h1 h2 h3 _ lp (ZP lp m) a' w.drew hC (c4 (by simp)) c1 x3 (by simp [ZP,x3]) (λj hj=>?_) (λj hj Xg=>?_) h8
  ·rw [S5 j za]
   cases hb:Nat.ble m j
   ·simp
   ·rw [Jy] at hb;omega
  ·refine ⟨?_,by rw [S5 j Xg,show Nat.ble m j=true by rw [Jy];exact hj];simp⟩
   rw [c5 j (λhp=>by have:=Az j hp;omega)]
   simp [x7,Bq,Xg]
 ·cases h7
theorem bx {W:World}{D b:Nat}{v:Int}{R:Ending->World->Prop}{tmps:Array Value}{o:Obj}(hb:Boxed W b 3 (.int .i64 v))(Qo:b≠D)(ht:tmps.getD 6 undef= .pointer (some ⟨b,0,none⟩))(hR:R (.returned (.int .i64 v)) (W.putObj D o)):
  LeavesInM Fence.wide 6 Tryz.prog Tryz.f212 tmps R [] .returning (W.putObj D o):=by
 have xl:Boxed (W.putObj D o) b 3 (.int .i64 v):=(World.putObj_heap_other Qo).trans hb
 have hc:=xl.cell
 refine ⟨.int .i64 v,?_,hR⟩
 unfold results
 rw [x7] at ht
 simp [Tryz.f212,ht,asAddr]
 unfold Boxed at xl
 simp [loadVar,World.cell?,xl]
set_option maxRecDepth 100000 in
set_option maxHeartbeats 4000000 in
theorem pe (g1 g0 t:Nat)(wait:Sl (Ls Wt))(row:Sl Wt)(words owner:Ls Int)(wd:Int)(w:World)(B7:xB w g1 185 #[.pointer (some ⟨g0,0,none⟩),.slice wait.A wait.l.length wait.cap])(hB0:xB w g0 182 #[words.v,owner.v])
  (hwo:words.At w) (hoo:owner.At w) (hwa:wait.At w) (ht:t<wait.l.length) (Dm:(nth wait.l t).v= .slice row.A row.l.length row.cap) (hr:row.At w) (Fs:row.l.length<=3) (dQ:0<=wd/\wd<words.l.length):
  CallsIn Fence.wide 6 Tryz.prog 212 #[.pointer (some ⟨g1,0,none⟩),.int .i64 ((t:Nat):Int),.int .i64 wd] w λe W' =>e= .returned (.int .i64 (x4 row.l words.l wd))/\Below w.heap.size w W' :=by
 refine callsIn_of_wp_marks Tryz.func212 V trivial ?_ V
 simp only [Tryz.ntmps212,bE,yY,xY,Nat.reduceAdd,Nat.reduceSub,Array.replicate_succ,Array.replicate_zero,List.push_toArray,List.append_toArray,JP,QQ]
 have OO:=B7.lt
 have zkT:=B7
 have bW:=(Boxed.new w 3 (.int .i64 wd)).alloc (.cells #[.int .i64 0] 3)
 have bR:=Boxed.new (w.alloc (.cells #[.int .i64 wd] 3)) 3 (.int .i64 0)
 simp only [World.size_alloc] at bR
 have hA1:Below w.heap.size w ((w.alloc (.cells #[.int .i64 wd] 3)).alloc (.cells #[.int .i64 0] 3)):=((xa _ w).alloc (qC _) _).alloc (by simp) _
 have zkS:=(B7.alloc (.cells #[.int .i64 wd] 3)).alloc (.cells #[.int .i64 0] 3)
 obtain ⟨c0,c1⟩:=zkS.Bb
 have zpk:wait.At ((w.alloc (.cells #[.int .i64 wd] 3)).alloc (.cells #[.int .i64 0] 3)):=hwa.yB λb hb=>hA1.block b (hwa.lt hb)
 have Ut:(t:Int)<wait.l.length:=za
 gi_wp2_with (refine ⟨trivial,?_⟩;gi_at_call 220;refine (PG Fence.wide _ trivial V _ _ _ _).mono ?_;rintro e w' ⟨rfl,rfl⟩)
 have bW2:=bW.alloc (.cells #[.slice row.A row.l.length row.cap] 267)
 have bR2:=bR.alloc (.cells #[.slice row.A row.l.length row.cap] 267)
 have bS:=Boxed.new ((w.alloc (.cells #[.int .i64 wd] 3)).alloc (.cells #[.int .i64 0] 3)) 267 (.slice row.A row.l.length row.cap)
 simp only [World.size_alloc] at bS
 have hA2:Below w.heap.size w (((w.alloc (.cells #[.int .i64 wd] 3)).alloc (.cells #[.int .i64 0] 3)).alloc (.cells #[.slice row.A row.l.length row.cap] 267)):=hA1.alloc (by simp;omega) _
 have x3:(((w.alloc (.cells #[.int .i64 wd] 3)).alloc (.cells #[.int .i64 0] 3)).alloc (.cells #[.slice row.A row.l.length row.cap] 267)).heap.size=w.heap.size+3:=by simp
 obtain ⟨W0,hW0⟩:∃W0,((w.alloc (.cells #[.int .i64 wd] 3)).alloc (.cells #[.int .i64 0] 3)).alloc (.cells #[.slice row.A row.l.length row.cap] 267)=W0:=⟨_,V⟩
 rw [hW0] at bW2 bR2 bS hA2 x3⊢
 clear hW0 c0 c1 zkS zpk hA1 bR bW
 have E0:w.heap.size+3<=W0.heap.size:=za
 clear x3
 have zhN:row.At W0:=hr.yB λb hb=>hA2.block b (hr.lt hb)
 refine wpIn_rangeFunc_ownH V za (gf:=221) (lb:= #[.pointer (some ⟨w.heap.size+1+1,0,none⟩)]) V trivial (enters_of Tryz.func221 zb V)
  (pj Fence.wide (6-1) trivial V za (w.heap.size+1+1) W0.heap.size row Fs W0 za (qC _) (λb hb=>by have:=hr.lt hb;omega) bS.cell zhN) belowK_t (belowK_b (qC _)) (xa _ _) (λ_=>rfl)
  (λpre W=>((Boxed W w.heap.size 3 (.int .i64 wd)/\Boxed W (w.heap.size+1) 3 (.int .i64 0))/\Below W0.heap.size W0 W)/\NoM wd pre)
  (λc pre W=>(∃qk:Int,(c= .ret/\ztc wd pre qk)/\Boxed W (w.heap.size+1) 3 (.int .i64 qk))/\Below w.heap.size w W)
  (OwnFrom.and (OwnFrom.and (OwnFrom.and (Own.from (boxed_own _ _ _) _) (Own.from (boxed_own _ _ _) _)) (ownFrom_below (qC _) (qC _))) (λ_ _ _ _ hs _ _=>hs))
  (λc=>OwnFrom.and (λs X Y rw_ hs hg Ox=>by
   obtain ⟨qk,h1,h2⟩:=hs
   exact ⟨qk,h1,boxed_own (w.heap.size+1) 3 (λ(_:Unit)=>Value.int .i64 qk) () X Y rw_ h2 hg (λr e=>(Ox r e).2)⟩) (ownFrom_below (qC _) za))
  ⟨⟨⟨bW2,bR2⟩,xa _ _⟩,λx hx=>by cases hx⟩
  (λx a' W=>∃Bx,w.heap.size+1<Bx/\xB W Bx 266 #[.bool x.2.lock,.int .i64 x.2.wh,.int .i64 x.2.qk]/\a' = { tmps:= #[.pointer (some ⟨g1,0,none⟩),.int .i64 ((t:Nat):Int),.int .i64 wd,undef,undef,.pointer (some ⟨w.heap.size,0,none⟩),.pointer (some ⟨w.heap.size+1,0,none⟩),undef,.pointer (some ⟨Bx,0,none⟩),.pointer (some ⟨g1,0,none⟩),.pointer (some ⟨g1,0,none⟩),.pointer (some ⟨g1,1,none⟩),.slice wait.A wait.l.length wait.cap,.int .i64 ((t:Nat):Int),.pointer (some (wait.dJ 1 t 0)),.slice row.A row.l.length row.cap,.func (.func 221) #[] #[.pointer (some ⟨w.heap.size+1+1,0,none⟩)],.int .i64 ((x.1:Nat):Int),.agg #[.bool x.2.lock,.int .i64 x.2.wh,.int .i64 x.2.qk],undef,undef,undef,undef,undef,undef,undef,undef,undef,undef,undef,undef,undef,undef,undef,undef,undef,undef],defers:= [] })
  (λx a' _ X Y rw_ hs hg Ox=>by obtain ⟨Bx,h1,h2,h3⟩:=hs;exact ⟨Bx,h1,PE Bx 266 (λ(_:Unit)=> #[Value.bool x.2.lock,.int .i64 x.2.wh,.int .i64 x.2.qk]) () X Y rw_ h2 hg (λr e=>(Ox r e).2),h3⟩)
  ?assign ?body ?done ?stop
 case assign=>
  rintro l pre x W K ⟨⟨⟨bW1,td⟩,B7⟩,Xq⟩ hK
  gi_wp2
  exact hK _ _ ((KeepsOthers.alloc _ _).from _) ((xa _ W).alloc B7.size _) ⟨⟨⟨bW1.alloc _,td.alloc _⟩,B7.alloc B7.size _⟩,Xq⟩ ⟨W.heap.size,td.lt,xB.new W 266 _,V⟩
 case body=>
  rintro l pre ⟨j,⟨lock,wh,qk⟩⟩ a' W hl ⟨r,Dn⟩ ⟨⟨⟨bW1,td⟩,B7⟩,Xq⟩ ⟨Bx,hBx,bX,rfl⟩ qU
  obtain ⟨x0,x1,x2⟩:=bX.Zu
  have cW:=bW1.cell
  have cR:=td.cell
  have fR:=td.frozen
  dsimp only at x0 x1 x2
  cases lock
  ·by_cases he:wh=wd
   ·subst he
    gi_wp2
    exact ⟨(KeepsOthers.setCell _ _ _).from _,⟨qk,⟨V,pre,(j,⟨false,wh,qk⟩),V,Xq,V,V,V⟩,td.set _⟩,(hA2.trans (B7.mono hA2.size)).setCell (p:=⟨w.heap.size+1,0,none⟩) (by show w.heap.size<=w.heap.size+1;omega) _⟩
   ·gi_wp2
    exact ⟨KeepsFrom.refl _ _,xa _ _,⟨⟨bW1,td⟩,B7⟩,fP Xq (λh=>he h.2)⟩
  ·gi_wp2
   exact ⟨KeepsFrom.refl _ _,xa _ _,⟨⟨bW1,td⟩,B7⟩,fP Xq (λh=>by cases h.1)⟩
 case done=>
  rename_i Q9 K9 hK9
  rintro D ys W hD rfl ⟨⟨⟨bW1,td⟩,B7⟩,Xq⟩ hK
  have hbW:Below w.heap.size w W:=hA2.trans (B7.mono hA2.size)
  obtain ⟨c0,c1⟩:=(zkT.qa hbW).Bb
  have cW:=bW1.cell
  have cR:=td.cell
  have hlD:D<W.heap.size:=(Array.getElem?_eq_some_iff.1 hK).1
  have oy:x4 row.l words.l wd=nth words.l wd.toNat:=Y6 λi hi h9=>by
   refine Xq (i,nth row.l i) ?_ h9
   exact List.mem_map.2 ⟨row.l.length-1-i,List.mem_range.2 za,by rw [show row.l.length-1-(row.l.length-1-i)=i from za]⟩
  have X0:∀x:XW W,x.w.cell? ⟨g1,0,none⟩=some (.pointer (some ⟨g0,0,none⟩)):=λx=>((zkT.qa hbW).qa x.h).Bb.1
  have X1:∀x:XW W,x.w.cell? ⟨w.heap.size,0,none⟩=some (.int .i64 wd):=λx=>by rw [x.h.cell (show w.heap.size<W.heap.size from bW1.lt)];exact cW
  refine hK9 _ _ (wpIn_seq (wpIn_wide.2 ?_))
  refine MX 6 [] zb zb (C:=λw' =>∃x:XW W,w' =x.w) ⟨⟨_,(xa _ _).drew⟩,V⟩ zb λZ hZ=>?_
  simp only [List.take_succ_cons,List.take_zero]
  repeat (go_big_quiet_step (fail))
  refine wpQuiet_nil (hZ _ ?_)
  rintro _ ⟨x,rfl⟩
  simp only [List.drop_succ_cons,List.drop_zero]
  have BF:Below w.heap.size w x.w:=hbW.trans (x.h.mono hbW.size)
  have bRx:Boxed x.w (w.heap.size+1) 3 (.int .i64 0):=(x.h.block _ td.lt).trans td
  have hKx:x.w.heap[D]? =some (.deferred (some [])):=(x.h.block _ hlD).trans hK
  go_wp2_with (go_at_call 202;refine gJ (fx g0 words owner ((t:Nat):Int) wd 0 x.w (hB0.qa BF) (hwo.yB λb hb=>BF.block b (hwo.lt hb)) (hoo.yB λb hb=>BF.block b (hoo.lt hb)) dQ) ?_;rintro e w' ⟨v,rfl,rfl,hs⟩;have YJ:Below w.heap.size w w' :=BF.trans (hs.J6.KK.mono BF.size);have bR9:Boxed w' (w.heap.size+1) 3 (.int .i64 0):=(hs.J6.KK.block _ bRx.lt).trans bRx;have hK9:w'.heap[D]? =some (.deferred (some [])):=(hs.J6.KK.block _ (Array.getElem?_eq_some_iff.1 hKx).1).trans hKx;have cR9:=bR9.cell;have fR9:=bR9.frozen)
  gi_wp2
  exact ⟨by simp,.inl ⟨_,_,V,run_takeDeferred ((Below.heap_setCell _ _ _ D (by show D≠w.heap.size+1;omega)).trans hK9),bx (bR9.set _) za V ⟨by rw [oy],(YJ.setCell (p:=⟨w.heap.size+1,0,none⟩) (by show w.heap.size<=w.heap.size+1;omega) _).trans (belowK_b (w:=W0) za _ D _ (.deferred none) za ((Below.heap_setCell _ _ _ D (by show D≠w.heap.size+1;omega)).trans hK9) V V)⟩⟩⟩
 case stop=>
  rintro D c pre W hD ⟨k,hk,rfl⟩ ⟨⟨qk,⟨rfl,zrx⟩,td⟩,B7⟩ hK
  gi_wp2
  have Ot:x4 row.l words.l wd=qk:=by
   obtain ⟨zbb,x,h1,h2,h3,h4,h5⟩:=zrx
   cases k with
   |zero=>have:=congrArg List.length h1;simp [VE] at this
   |succ k=>
    rw [Kv] at h1
    obtain ⟨e1,e2⟩:=List.append_inj' h1 V
    have e3:(row.l.length-1-k,nth row.l (row.l.length-1-k))=x:=by simpa using e2
    subst e3 e1
    refine (Vz (i:=row.l.length-1-k) za h3 h4 λj hj Ti h9=>h2 (j,nth row.l j) ?_ h9).trans h5
    exact List.mem_map.2 ⟨row.l.length-1-j,List.mem_range.2 za,by rw [show row.l.length-1-(row.l.length-1-j)=j from za]⟩
  refine ⟨by simp,.inl ⟨_,_,V,run_takeDeferred hK,bx td za V ⟨by rw [Ot],B7.trans (belowK_b (w:=W0) za W D _ (.deferred none) za hK V V)⟩⟩⟩
end Go.Proofs.YtmjkobhkkjgplaaGreatDoor
namespace Go.Proofs.YtmjkobhkkjgplaaGreatDoor
open Go.RowKit
set_option linter.unusedSimpArgs false
set_option linter.unusedVariables false
def HA (v:Value):Nat:=match v with
 | .slice _ _ c=>c
 |_=>0
def mz (v:Value)(sz lo hi:Nat):Value:=match v with
 | .slice A n c=> .slice (if c=lo then A else A.map (·.add (lo*sz))) (hi-lo) (c-lo)
 |v=>v
def P7 (v:Value)(sz lo hi mx:Nat):Value:=match v with
 | .slice A n c=> .slice (if mx=lo then A else A.map (·.add (lo*sz))) (hi-lo) (mx-lo)
 |v=>v
theorem Ja {X:Nat->Prop}{g:Nat}(hg:X g):∀(vs:List Value) (o:Nat) (w:World),j2 X w (w.setCells g o vs)
 | [],_,_=>j2.refl _ _
 |v::vs,o,w=>((j2.setCell (X:=X) w ⟨g,o,none⟩ hg v)).trans (Ja hg vs (o+1) _) λb hb=> .inl hb
theorem KO {g:Nat}{E:TypeId} :∀(vs:List Value) (o:Nat) (w:World) (cur:Array Value),w.heap[g]? =some (.cells cur E (0,0))->∃oY,(w.setCells g o vs).heap[g]? =some (.cells oY E (0,0))/\oY.size=cur.size/\∀k,k<o->oY[k]? =cur[k]?
 | [],_,_,cur,h=>⟨cur,h,V,λ_ _=>rfl⟩
 |v::vs,o,w,cur,h=>by
  have h2:xB (w.setCell ⟨g,o,none⟩ v) g E (cur.setIfInBounds o v):=xB.zaU (w:=w) h o v
  obtain ⟨oY,h3,h4,h5⟩:=KO vs (o+1) _ _ h2
  refine ⟨oY,h3,h4.trans (by simp),λk hk=>(h5 k za).trans ?_⟩
  rw [Array.getElem?_setIfInBounds_ne za]
section
variable {P:Program}{o:Oper}{N:Nat}{K:Nat->Prop}{W w:World}{a:Act}{F:List (Nat×Value)}{L:List zZ}{α:Type}[zz α]
theorem zgh {T e:TypeId}{g:Bool}{n xf:Nat}{z:List Value}{x y1 y2 y3:Operand}{s:Ls α}{lo hi mx:Nat}(hT:QA P T=some e)(he:je P e=some (g,n,xf,z))(ho:o.op= .slice T x (some y1) (some y2) (some y3))(hx:ev F x=some s.v)
  (hy1:ev F y1=some (.int .i64 (lo:Int))) (hy2:ev F y2=some (.int .i64 (hi:Int))) (hy3:ev F y3=some (.int .i64 (mx:Int))) (hat:∀w,Sh K W w L->s.At w) (hb:lo<=hi/\hi<=mx/\mx<=s.l.length):Rn P o N K W F L (P7 s.v n lo hi mx):=λa w h=>by
 obtain ⟨A,cap,hv,hA⟩:=hat w h.sh
 have hle:=hA.le
 simp only at hle
 obtain ⟨i,d,zv,Yv,hd,_,rfl,_⟩:=qR he
 have hu:=yS hT
 have WJ:P.elem T=e:=by simp [Program.elem,hu]
 have dR:P.underlying T=some (.slice (P.elem T)):=by rw [WJ];exact hu
 have e1:=run_sliceAt_slice (P:=P) w T (.slice A s.l.length cap) (some (.int .i64 (lo:Int))) (some (.int .i64 (hi:Int))) (some (.int .i64 (mx:Int))) dR
 have e2:=run_slice_lhm (P:=P) w T A s.l.length cap dR .i64 .i64 .i64 (lo:Int) (hi:Int) (mx:Int) za za za za
 rw [WJ,run_sizeOf Yv,yQ] at e2
 rw [e2] at e1
 unfold execOp
 simp only [ho,h.fr.ev hx,h.fr.ev hy1,h.fr.ev hy2,h.fr.ev hy3,ZJ,GR,hv,qS,e1,yQ,q5,sliced,P7]
 simp
theorem CJ {T e:TypeId}{g:Bool}{n xf:Nat}{z:List Value}{x y1 y2:Operand}{s:Ls α}{lo hi:Nat}(hT:QA P T=some e)(he:je P e=some (g,n,xf,z))(ho:o.op= .slice T x (some y1) (some y2) none)(hx:ev F x=some s.v)
  (hy1:ev F y1=some (.int .i64 (lo:Int))) (hy2:ev F y2=some (.int .i64 (hi:Int))) (hat:∀w,Sh K W w L->s.At w) (hb:lo<=hi/\hi<=HA s.v):Rn P o N K W F L (mz s.v n lo hi):=λa w h=>by
 obtain ⟨A,cap,hv,hA⟩:=hat w h.sh
 have hle:=hA.le
 simp only at hle
 obtain ⟨i,d,zv,Yv,hd,_,rfl,_⟩:=qR he
 have hu:=yS hT
 have WJ:P.elem T=e:=by simp [Program.elem,hu]
 have dR:P.underlying T=some (.slice (P.elem T)):=by rw [WJ];exact hu
 rw [hv] at hb⊢
 simp only [HA] at hb
 have e1:=run_sliceAt_slice (P:=P) w T (.slice A s.l.length cap) (some (.int .i64 (lo:Int))) (some (.int .i64 (hi:Int))) none dR
 have e2:=run_slice_lh (P:=P) w T A s.l.length cap dR .i64 .i64 (lo:Int) (hi:Int) za za za
 rw [WJ,run_sizeOf Yv,yQ] at e2
 rw [e2] at e1
 unfold execOp
 simp only [ho,h.fr.ev hx,h.fr.ev hy1,h.fr.ev hy2,ZJ,GR,hv,qS,e1,yQ,q5,sliced,mz]
 simp
theorem C4 {E:TypeId}{s:Ls α}(h:(zZ.own E s).ok w):s.l.length<=HA s.v:=by
 rcases h.1.2 with ⟨h1,h2⟩|⟨g,cap,cur,hv,_,_,hn,_⟩
 ·omega
 ·rw [hv];exact hn
theorem eu {T e:TypeId}{gg:Bool}{sz xf r hi:Nat}{z:List Value}{x:Operand}{s:Ls α}{E:TypeId}(h:St N K W a w F L)(hT:QA P T=some e)(he:je P e=some (gg,sz,xf,z))(ho:o.op= .call ⟨.builtin .clear, #[x], #[T]⟩)
  (hx:ev F x=some (mz s.v sz s.l.length hi)) (hr:L[r]? =some (.own E s)) (x3:zz.sz α=sz) (hz1:z.all (·.oneCell')=true) (ER:z.length=sz) (hh:s.l.length<hi/\hi<=HA s.v) (hd:o.dst=none):Ex P o a w (λa' w' =>St N K W a' w' F L):=by
 subst x3
 obtain ⟨wP,hlen,Kj⟩:=h.sh.ok _ (zy hr)
 rcases wP.2 with ⟨h1,_⟩|⟨g,cap,cur,Wj,sC,hg,hn,hm,XH,ig⟩
 ·rw [h1] at hh;simp [HA] at hh;omega
 obtain ⟨i,d,zv,wm,hd',_,hs,ma,BB,cM⟩:=qR he
 have zdn:hi<=cap:=by have:=hh.2;rw [Wj] at this;exact this
 have MN:mz s.v (zz.sz α) s.l.length hi= .slice (some ⟨g,s.l.length*zz.sz α,none⟩) (hi-s.l.length) (cap-s.l.length):=by
  rw [Wj];simp only [mz];rw [if_neg za];simp [wD]
 obtain ⟨zs,hzs⟩:∃zs,(Builtin.zeroCells zv.cells (hi-s.l.length)).toList=zs:=⟨_,V⟩
 have zrV:zv.cells.size=zz.sz α:=by rw [<-ER,<-cM];simp
 have zwi:zs.length=(hi-s.l.length)*zz.sz α:=by rw [<-hzs];simp [Builtin.zeroCells,zrV]
 have zo8:∀v∈zs,v.oneCell' =true:=by
  intro v hv
  rw [<-hzs] at hv
  simp only [Builtin.zeroCells,Array.toList_map,List.mem_map,Array.mem_toList_iff,Array.mem_range] at hv
  obtain ⟨q,hq,rfl⟩:=hv
  have YM:0<zv.cells.size:=by
   rcases Hu zv.cells.size with h0|h0
   ·rw [h0] at hq;omega
   ·exact h0
  have zqY:=VH q YM
  rw [getElem!_pos zv.cells _ zqY]
  exact (List.all_eq_true.1 hz1) _ (by rw [<-cM];exact Array.getElem_mem_toList _)
 have BD:∀j,j<zs.length->s.l.length*zz.sz α+j<cur.size:=by
  intro j hj
  rw [XH]
  have h1:s.l.length*zz.sz α+j<s.l.length*zz.sz α+(hi-s.l.length)*zz.sz α:=za
  rw [<-GP] at h1
  exact Nat.lt_of_lt_of_le h1 (WV _ za)
 have hst:=run_storeCells_cells (P:=P) g (s.l.length*zz.sz α) zs 0 w (λj hj=>by
   simp only [Kz]
   rw [xB.cell (E:=E) hg,Xa (BD j hj)];rfl) (λj hj=>xB.frozen (E:=E) hg _) zo8
 simp only [Kz] at hst
 have yN:∀ty,(Builtin.clear_ #[T] ty #[.slice (some ⟨g,s.l.length*zz.sz α,none⟩) (hi-s.l.length) (cap-s.l.length)]).run P w= .ok (.tuple #[]) (w.setCells g (s.l.length*zz.sz α) zs):=by
  intro ty
  obtain ⟨m,hm9⟩:∃m,hi-s.l.length=m+1:=⟨hi-s.l.length-1,za⟩
  rw [hm9] at hzs⊢
  simp [Builtin.clear_,run_underlying (yS hT),ff wm BB,hzs,hst]
 refine Ex.j8 (v:= .tuple #[]) (w' :=w.setCells g (s.l.length*zz.sz α) zs) ?_ ?_
 ·unfold execOp
  simp only [ho,resolve,invoke,builtin,qS,q5,yQ,Bl,xA,wY,h.fr.ev hx,MN,yN]
 ·rw [hd]
  obtain ⟨oY,iP,zrW,hk'⟩:=KO zs (s.l.length*zz.sz α) w cur hg
  have h2:=h.sh.put (A' := .own E s) hr (Ja (X:=(zZ.own E s).fp) (by show s.v.ownBlock=some g;rw [Wj];rfl) zs (s.l.length*zz.sz α) w) ⟨⟨wP.1,.inr ⟨g,cap,oY,Wj,sC,iP,hn,hm,zrW.trans XH,?_⟩⟩,hlen,?_⟩ (λb hb=> .inl hb) (λb hb=> .inr (.inl hb)) (h.sh.self _ (zy hr))
  ·have:L.set r (.own E s)=L:=by
    obtain ⟨qU,e9⟩:=List.getElem?_eq_some_iff.1 hr
    rw [<-e9];exact List.set_getElem_self qU
   rw [this] at h2
   exact ⟨h.fr,h2⟩
  ·rw [<-ig]
   apply Hr
   intro k
   simp only [VI,Bo]
   split
   ·exact hk' k zc
   ·rfl
  ·intro q hq
   refine zz.yB _ w _ (Kj q hq) λb hb=>?_
   have hbg:b≠g:=by
    rintro rfl
    exact (h.sh.self _ (zy hr)) b (by show s.v.ownBlock=some b;rw [Wj];rfl) ⟨q,hq,hb⟩
   have qU:b<w.heap.size:=zz.lt _ w (Kj q hq) b hb
   exact (Ja (X:=λb=>b=g) V zs (s.l.length*zz.sz α) w).same b qU hbg
theorem zay {d:Nat}{T e:TypeId}{gg:Bool}{sz xf r j k:Nat}{z:List Value}{x y:Operand}{s:Ls α}{E:TypeId}[Flat α](h:St N K W a w F L)(hT:QA P T=some e)(he:je P e=some (gg,sz,xf,z))(ho:o.op= .call ⟨.builtin .append, #[x,y], #[T,T]⟩)
  (hx:ev F x=some (kC s.v j)) (hy:ev F y=some (kQ s.v sz k)) (hr:L[r]? =some (.own E s)) (hE:E=e) (x3:zz.sz α=sz) (h1:One α) (OW:j<=k/\k<=s.l.length/\0<s.l.length) (hd:o.dst=some d) (wz:Nat.blt d N=true):
  Ex P o a w (λa' w' =>∃v:Value,HA v=HA s.v/\St N K W a' w' ((d,v)::F) (L.set r (.own E ⟨v,s.l.take j++s.l.drop k⟩))):=by
 subst x3
 subst hE
 obtain ⟨i,ed,zv,hi,O0,_,hs,ma,BB,cM⟩:=qR he
 obtain ⟨wP,hlen,Kj⟩:=h.sh.ok _ (zy hr)
 obtain ⟨OW,hk,YM⟩:=OW
 have iC:=wP
 rcases wP.2 with ⟨_,h0⟩|⟨g,cap,cur,Wj,sC,hg,hn,hm,XH,ig⟩
 ·omega
 have zdl:cur.size=cap*zz.sz α:=XH
 have FO:w.ownsRow 0 E (zz.sz α) (.slice (some ⟨g,0,none⟩) j cap) j (qH (s.l.take j)):=by
  refine ⟨by rw [qe,vU,JQ za],.inr ⟨g,cap,cur,V,sC,hg,za,hm,XH,?_⟩⟩
  rw [XO,<-ig,List.take_take]
  congr 1
  exact (JQ (WV _ za)).symm
 have DG:∀q u,(qH s.l)[q]? =some u->w.cell? ⟨g,q,none⟩=some u:=by
  intro q u hq
  rw [Wj] at iC
  have qU:q<s.l.length*zz.sz α:=by
   have:=(List.getElem?_eq_some_iff.1 hq).1
   rwa [qe] at this
  rw [iC.cellAt q qU,hq]
 have oh:∀u∈qH (s.l.drop k),u.oneCell' =true:=by
  intro u hu
  obtain ⟨q,hq⟩:=kG hu
  have qU:q<(s.l.drop k).length*zz.sz α:=by
   have:=(List.getElem?_eq_some_iff.1 hq).1
   rwa [qe] at this
  have nO:0<zz.sz α:=by
   rcases Hu (zz.sz α) with h|h
   ·rw [h] at qU;omega
   ·exact h
  have h2:=Q5 (s.l.drop k) (q/zz.sz α) (q%zz.sz α) ((Hw nO).2 qU) (VH _ nO)
  rw [show q/zz.sz α*zz.sz α+q%zz.sz α=q by rw [Ho];exact Bk _ _,hq] at h2
  cases h2
  exact h1.one _ w (Flat.inner _ _) _ (VH _ nO)
 have I6:∀(A2:Addr) (c2:Nat),(∀q u,(qH (s.l.drop k))[q]? =some u->w.cell? (A2.add q)=some u)->∃w',(Builtin.append_ #[T,T] o.type #[.slice (some ⟨g,0,none⟩) j cap,.slice (some A2) (s.l.length-k) c2]).run P w= .ok (.slice (some ⟨g,0,none⟩) (j+(s.l.length-k)) cap) w' /\
   w'.ownsRow 0 E (zz.sz α) (.slice (some ⟨g,0,none⟩) (j+(s.l.length-k)) cap) (j+(s.l.length-k)) (qH (s.l.take j)++qH (s.l.drop k))/\w.grownBy w' (some g):=λA2 c2 AG=>
  run_append_fits (P:=P) w 0 T o.type E i (zz.sz α) (yS hT) hi hs g j cap _ FO A2 (s.l.length-k) c2 (qH (s.l.drop k)) (by rw [qe,v7]) AG oh za
 have oy:∃w' y',kQ s.v (zz.sz α) k=y' /\(Builtin.append_ #[T,T] o.type #[.slice (some ⟨g,0,none⟩) j cap,y']).run P w= .ok (.slice (some ⟨g,0,none⟩) (j+(s.l.length-k)) cap) w' /\
   w'.ownsRow 0 E (zz.sz α) (.slice (some ⟨g,0,none⟩) (j+(s.l.length-k)) cap) (j+(s.l.length-k)) (qH (s.l.take j)++qH (s.l.drop k))/\w.grownBy w' (some g):=by
  rw [Wj]
  by_cases hck:cap=k
  ·have Dw:s.l.drop k= []:=lQ za
   obtain ⟨w',h3⟩:=I6 ⟨g,0,none⟩ (cap-k) (by rw [Dw];intro q u hq;simp [qH] at hq)
   exact ⟨w',_,by simp only [kQ,if_pos hck],h3⟩
  ·obtain ⟨w',h3⟩:=I6 ((⟨g,0,none⟩:Addr).add (k*zz.sz α)) (cap-k) (by
    intro q u hq
    rw [UD,GS] at hq
    have:=DG _ _ hq
    simpa [wD] using this)
   exact ⟨w',_,by simp only [kQ,if_neg hck,ZJ],h3⟩
 obtain ⟨w',y',hy',yN,Dt,iP⟩:=oy
 have MN:kC s.v j= .slice (some ⟨g,0,none⟩) j cap:=by rw [Wj];rfl
 refine Ex.j8 (v:= .slice (some ⟨g,0,none⟩) (j+(s.l.length-k)) cap) (w' :=w') ?_ ⟨.slice (some ⟨g,0,none⟩) (j+(s.l.length-k)) cap,by rw [Wj];rfl,?_⟩
 ·unfold execOp
  simp only [ho,resolve,invoke,builtin,qS,q5,yQ,Bl,xA,wY,h.fr.ev hx,h.fr.ev hy,MN,hy',yN]
 ·rw [hd]
  have hob:s.v.ownBlock=some g:=by rw [Wj];rfl
  have J0:∀b,(zZ.own E (⟨.slice (some ⟨g,0,none⟩) (j+(s.l.length-k)) cap,s.l.take j++s.l.drop k⟩:Ls α)).fp b->(zZ.own E s).fp b\/w.heap.size<=b:=by
   intro b hb
   have:g=b:=by simpa [zZ.own,Value.ownBlock] using hb
   subst this
   exact .inl hob
  refine ⟨h.fr.put d (by simpa [yV] using wz) _,h.sh.put hr (j2.grown iP (λb hb=>by cases hb;exact hob)) ⟨?_,?_,λq hq=>Flat.inner _ _⟩ J0 (λb hb=>?_) (λb hb xl=>?_)⟩
  ·show World.ownsRow _ 0 E _ _ (s.l.take j++s.l.drop k).length (qH (s.l.take j++s.l.drop k))
   rw [vY,yX,vU,v7,JQ za];exact Dt
  ·show (s.l.take j++s.l.drop k).length<=_
   rw [yX,vU,v7,JQ za];omega
  ·obtain ⟨q,_,hb⟩:=hb;exact (Flat.on _ _ hb).elim
  ·obtain ⟨q,_,hb⟩:=xl;exact (Flat.on _ _ hb).elim
end
set_option maxRecDepth 100000
set_option maxHeartbeats 20000000
theorem ru {l tl:List jn}{n:Nat}{p q:Int}{r:Value}(h:n<l.length)(e:tl=l.set n ⟨p,r⟩):tl.set n { nth tl n with pc:=q } =l.set n ⟨q,r⟩:=by
 subst e
 rw [jt,if_pos ⟨V,h⟩,List.set_set]
theorem zba {l:List jn}{n:Nat}{q:Int}{r:Value}(hr:(nth l n).rv=r):l.set n { nth l n with pc:=q } =l.set n ⟨q,r⟩:=by
 subst hr;rfl
theorem Ze {l:List jn}{n:Nat}{r:Value}(hr:(nth l n).rv=r)(hn:n<l.length):l=l.set n ⟨(nth l n).pc,r⟩:=by
 subst hr
 refine gi _ _ (by simp) λi hi=>?_
 rw [jt]
 split
 ·rename_i hh;rw [<-hh.1]
 ·rfl
theorem qy {α:Type}[Inhabited α](l:List α)(n:Nat):l.set n (nth l n)=l:=by
 rcases yq n l.length with h|h
 ·rw [qq l n h];exact List.set_getElem_self h
 ·exact List.set_eq_of_length_le h
theorem swap_eq {M:Qy}{wd qk pc:Int}{n:Nat}{ze zd:List Int}{zq:Bool}{words zB owner zA:Ls Int}{q q' :M.σ}(h:zas M wd qk words owner q zB zA q'):
  M.qs q' =(M.qs q).set n (nth (M.qs q) n)/\(⟨pc,ze,nth (M.qs q) n,zB.l,zA.l,zd,zq⟩:TS)=⟨pc,ze,nth (M.qs q) n,words.l.set wd.toNat qk,owner.l,zd,zq⟩:=by
 obtain ⟨h1,h2,h3⟩:=h
 rw [h1,h2,h3,qy]
 exact ⟨V,V⟩
section
variable {m:Int}{n:Nat}{i:Ins}{x:TS}
theorem ud (h:i.op=18)(h1:¬nth x.owner i.a.toNat≠n)(h2:x.holds i.a=false):zJ m n i x=x.store m ⟨true,i.a,0⟩:=by
 have Lg:nth x.owner i.a.toNat=n:=Decidable.not_not.1 h1
 simp [zJ,h,Lg,h2]
theorem aH (h:i.op=18)(h1:nth x.owner i.a.toNat≠n\/x.holds i.a=true):zJ m n i x= { x with zq:=true } :=by
 by_cases h2:nth x.owner i.a.toNat≠n
 ·exact va h h2
 ·have h3:=h1.resolve_left h2
  have Lg:nth x.owner i.a.toNat=n:=Decidable.not_not.1 h2
  simp [zJ,h,Lg,h3]
theorem CZ (h:¬i.op=8/\¬i.op=9/\¬i.op=10/\¬i.op=11/\¬i.op=13/\¬i.op=17/\¬i.op=18)(h2:¬i.op=1/\¬i.op=2/\¬i.op=3/\¬i.op=4/\¬i.op=5/\¬i.op=6/\¬i.op=7/\¬i.op=14/\¬i.op=15/\¬i.op=16):zJ m n i x=x:=
 wB za
theorem zdB {owner:List Int}{nw:Nat}(h:q7 owner nw i=true):((i.op=9\/i.op=11\/i.op=18)->nw<3)/\(i.op=13->nw=0)/\True:=by
 unfold q7 at h
 refine ⟨λe=>?_,λe=>?_,trivial⟩
 ·rw [if_pos e] at h;exact of_decide_eq_true h
 ·rw [if_neg za,if_pos za] at h;exact of_decide_eq_true h
theorem zbd {c:List Ins}{k:Nat}(hk:0<k):XY m n c k x= { x.done (nth x.wait (k-1)) with wait:=x.wait.eraseIdx (k-1) } :=by unfold XY;rw [if_pos hk]
theorem tg {c:List Ins}{k:Nat}(h:xp m c x k=true)(hk:k=0):x.pc<(c.length:Int)/\q7 x.owner x.wait.length (zo c x.pc)=true:=by
 unfold xp at h
 rw [if_pos hk] at h
 unfold vT at h
 rw [qI] at h
 exact ⟨of_decide_eq_true h.1,h.2⟩
end
def zau (K:Nat->Prop)(W:World)(ST TH xn PL PT:Nat)(M:Qy)(g gp n:Nat)(pc:List Value)(zl:Ls jn)(q:M.σ)(y:TS)(code:Ls (Ls Ins))(w' :World):Prop:=
 ∃(vW zB zA qT:Ls Int) (q' :M.σ) (wt:List Wt) (Bz:Int) (vX:Bool),M.qs q' =(M.qs q).set n wt/\(⟨Bz,vW.l,wt,zB.l,zA.l,qT.l,vX⟩:TS)=y/\
  Sh K W w' [.zM g ST [.iface M.T (.pointer (some M.u)),.pointer (some ⟨gp,0,none⟩),zl.v,qT.v,.bool vX],.zx gp PT pc,.own TH (⟨zl.v,zl.l.set n ⟨Bz,vW.v⟩⟩:Ls jn),.own xn vW,.own xn qT,.zM M.g0 PL [zB.v,zA.v],.own xn zB,.own xn zA,M.X q',.at_ code]
theorem Se (K:Nat->Prop)(M:Qy)(g gc:Nat)(n:Int)(words owner:Ls Int)(q:M.σ)(pp tv pv:Value)(zq:Bool)(W:World)(hM:KA Tryz.prog 182 3 M)(hS:Sh K W W [.zM gc 85 [.pointer (some ⟨g,0,none⟩)],.zM g 173 [.iface M.T (.pointer (some M.u)),pp,tv,pv,.bool zq],.zM M.g0 182 [words.v,owner.v],.own 3 words,.own 3 owner,M.X q]):
    zP Tryz.prog 163 [.int .i64 n,.pointer (some ⟨gc,0,none⟩)] W (λv w' =>v= .bool (decide (0<=n/\n<(words.l.length:Int)))/\Sh K W w' [.zM gc 85 [.pointer (some ⟨g,0,none⟩)],.zM g 173 [.iface M.T (.pointer (some M.u)),pp,tv,pv,.bool (zq|| !decide (0<=n/\n<(words.l.length:Int)))],.zM M.g0 182 [words.v,owner.v],.own 3 words,.own 3 owner,M.X q]):=by
 refine gen Tryz.func163 Tryz.ntmps163 hS V λjP z7=>gG z7<|sG (oM 1 V<|.nl)<|sK λ_ j1=>zn (oM 1 V<|nc _ _ V<|oM 1 V<|.nl)<|?_;clear z7
 rcases G3 (0<=n) with ⟨YN,zcF⟩|⟨YN,zcF⟩
 ·skip
  refine zn (oG YN (zG V V) V<|oG YN (xV (i:=0) vk V V V V) V<|oG YN (jC V V) V<|oG YN (zT (r:=0) yU V V V) V<|oG YN (xV (i:=1) kc V V V V) V<|.nl)<|λee BN xd=>zL (ZL xd V V V V V (hM.base _ words owner q ⟨xd.sh.zM 2 V,xd.sh.own 3 V,xd.sh.own 4 V,xd.sh.ok _ (zy (i:=5) V)⟩)) (jx xd.fr V V V V YN) ?_
  rintro HT Hz ⟨_,⟨rfl,Gf⟩,Gm⟩
  have xr:St 32 K W HT Hz _ _:=⟨Gm,xd.sh.jv Gf⟩
  clear Gm Gf
  clear xd
  refine gG xr<|y4 (aO 3 V) λIm=>zn (oG YN (jC V V) V<|oG YN (zT (r:=0) kW V V V) V<|oG YN (xV (i:=2) zV V V V V) V<|oG YN (Zc (s:=words) (n:=words.l.length) zt V V (λw h=>(h.own 3 V)) V) V<|oG YN (Jc (p:=n) (q:=((words.l.length:Nat):Int)) V V V) V<|QV YN V<|oM 1 V<|.nl)<|nK j1<|gK λ_ Us=>λHS Hx jc=>ka 11 [] zb zb jc λ_ z19=>qQ jc.fr<|vu (qw 0 vk V V<|qw 0 vk V V<|yb 1 Zq w5 V V<|oM 1 V<|.nl)<|?_;clear xr
  rcases JU zq with wQ|wQ
  ·skip
   refine vu (Zy 2 wQ V V<|QV wQ V<|jA Zq V<|.nl)<|qN z19<|?_;clear jc
   refine dX (v:= .bool true) 1 w5 V V V<|nK Us<|gF [4] V<|sG (oM 2 V<|.nl)<|gR<|λa24 dN wJ=>zu (fn:=Tryz.f163) (t:=3) V wJ V ?_
   have e9:decide (n<((words.l.length:Nat):Int))=decide (0<=n/\n<(words.l.length:Int)):=by first|exact (decide_eq_true za).symm|exact (decide_eq_false za).symm|exact decide_eq_decide.2 ⟨λh9=>za,λh9=>za⟩
   have e7:(true)=(zq|| !decide (0<=n/\n<(words.l.length:Int))):=by rw [<-e9];first|(rw [show zq=true from zc];rfl)|(rw [show zq=false from zc];rfl)|(rw [show zq=false from zc];simp;omega)
   have e8:=wJ.sh
   rw [e7] at e8
   exact ⟨by rw [e9],e8⟩
  refine vu (oG wQ (zG V V) V<|oG wQ (WD V V) V<|Zx wQ V<|jA Zq V<|.nl)<|qN z19<|?_;clear jc
  refine dX 1 w5 V V V<|nK Us<|gF [4] V<|sG (oM 2 V<|.nl)<|gR<|λmg lW w8=>zu (fn:=Tryz.f163) (t:=3) V w8 V ?_
  have e9:decide (n<((words.l.length:Nat):Int))=decide (0<=n/\n<(words.l.length:Int)):=by first|exact (decide_eq_true za).symm|exact (decide_eq_false za).symm|exact decide_eq_decide.2 ⟨λh9=>za,λh9=>za⟩
  have e7:(!(decide (n<((words.l.length:Nat):Int))))=(zq|| !decide (0<=n/\n<(words.l.length:Int))):=by rw [<-e9];first|(rw [show zq=true from zc];rfl)|(rw [show zq=false from zc];rfl)|(rw [show zq=false from zc];simp;omega)
  have e8:=w8.sh
  rw [e7] at e8
  exact ⟨by rw [e9],e8⟩
 refine zn (Zy 11 YN V V<|Zx YN V<|oM 1 V<|.nl)<|nK j1<|gK λ_ HH=>λa31 dM ZW=>ka 11 [] zb zb ZW λ_ z32=>qQ ZW.fr<|vu (qw 0 vk V V<|qw 0 vk V V<|yb 1 Zq w5 V V<|oM 1 V<|.nl)<|?_
 rcases JU zq with QY|QY
 ·skip
  refine vu (Zy 2 QY V V<|QV QY V<|jA Zq V<|.nl)<|qN z32<|?_;clear ZW
  refine dX (v:= .bool true) 1 w5 V V V<|nK HH<|gF [4] V<|sG (oM 2 V<|.nl)<|gR<|λa37 w37 KF=>zu (fn:=Tryz.f163) (t:=3) V KF V ?_
  have e9:false=decide (0<=n/\n<(words.l.length:Int)):=by first|exact (decide_eq_true za).symm|exact (decide_eq_false za).symm|exact decide_eq_decide.2 ⟨λh9=>za,λh9=>za⟩
  have e7:(true)=(zq|| !decide (0<=n/\n<(words.l.length:Int))):=by rw [<-e9];first|(rw [show zq=true from zc];rfl)|(rw [show zq=false from zc];rfl)|(rw [show zq=false from zc];simp;omega)
  have e8:=KF.sh
  rw [e7] at e8
  exact ⟨by rw [e9],e8⟩
 refine vu (oG QY (zG V V) V<|oG QY (WD V V) V<|Zx QY V<|jA Zq V<|.nl)<|qN z32<|?_;clear ZW
 refine dX (v:= .bool true) 1 w5 V V V<|nK HH<|gF [4] V<|sG (oM 2 V<|.nl)<|gR<|λa42 w42 WM=>zu (fn:=Tryz.f163) (t:=3) V WM V ?_
 have e9:false=decide (0<=n/\n<(words.l.length:Int)):=by first|exact (decide_eq_true za).symm|exact (decide_eq_false za).symm|exact decide_eq_decide.2 ⟨λh9=>za,λh9=>za⟩
 have e7:(true)=(zq|| !decide (0<=n/\n<(words.l.length:Int))):=by rw [<-e9];first|(rw [show zq=true from zc];rfl)|(rw [show zq=false from zc];rfl)|(rw [show zq=false from zc];simp;omega)
 have e8:=WM.sh
 rw [e7] at e8
 exact ⟨by rw [e9],e8⟩
theorem zbc (K:Nat->Prop)(M:Qy)(g gp:Nat)(code:Ls (Ls Ins))(zl:Ls jn)(ze zd words owner:Ls Int)(q:M.σ)(pw:Value)(zm z8:Int)(zq:Bool)(n:Nat)(ins:Ins)(W:World)(hM:KA Tryz.prog 182 3 M)(hS:Sh K W W [.zM g 173 [.iface M.T (.pointer (some M.u)),.pointer (some ⟨gp,0,none⟩),zl.v,zd.v,.bool zq],.zx gp 25 [code.v,pw,.int .i64 zm,.int .i64 z8],.own 189 zl,.own 3 ze,.own 3 zd,.zM M.g0 182 [words.v,owner.v],.own 3 words,.own 3 owner,M.X q,.at_ code])(ht:n<zl.l.length)(htn:n<=1000)(Dm:(nth zl.l n).rv=ze.v)(l4:n<(M.qs q).length)(ZU:(nth (M.qs q) n).length<=3)(nH:∀x∈nth (M.qs q) n,x.lock=true->x.qk=0)(Vs:∀v∈owner.l,-1<=v)(hR:GV ze.l.length words.l.length owner.l.length ins)(Xq:¬ins.op=1/\¬ins.op=2/\¬ins.op=3/\¬ins.op=4/\¬ins.op=5/\¬ins.op=6/\¬ins.op=7/\¬ins.op=14/\¬ins.op=15/\¬ins.op=16)(GY:((ins.op=9\/ins.op=11\/ins.op=18)->(nth (M.qs q) n).length<3)/\(ins.op=13->(nth (M.qs q) n).length=0)/\True):
    zP Tryz.prog 146 [.pointer (some ⟨g,0,none⟩),.int .i64 ((n:Nat):Int),.agg #[.int .i64 ins.op,.int .i64 ins.a,.int .i64 ins.b,.int .i64 ins.c]] W (λv w' =>v= .tuple #[]/\zau K W 173 189 3 182 25 M g gp n [code.v,pw,.int .i64 zm,.int .i64 z8] zl q (zJ M.m n ins (⟨(nth zl.l n).pc,ze.l,nth (M.qs q) n,words.l,owner.l,zd.l,zq⟩:TS)) code w'):=by
 refine gen Tryz.func146 Tryz.ntmps146 hS V λjP z7=>gG z7<|sK λ_ kz=>XV V V λxX=>XV V V λgk=>nK kz<|sK λ_ Xp=>y4 (aO 4 V) λB3=>zn (qw 1 vk V V<|yb 2 xM wb V V<|oM 1 V<|jo wL kI (aO 4 V) _ zp V<|QB XL V<|oV (Rn.same (x6 (s:=zl) (i:=n) (v:=((nth zl.l n).rv)) zV V V V (λw h=>(h.own 4 V)) (show n<zl.l.length from zp) (y5 V) V) Dm) V<|oM 1 V<|.nl)<|nK Xp<|sG (oV (W7 V V V) V<|oM 1 V<|.nl)<|sG (qB xL V<|qw 0 zj V V<|.nl)<|gB<|sG (yK _ _ V<|oM 1 V<|.nl)<|?_;clear z7
 refine gcd V (λZB Uv=>?_) λZB Uv=>?_
 ·skip
  have q9:=hR.o8 za
  intro a20 mw wV
  refine ka 12 [] zb zb wV λ_ z21=>qQ wV.fr<|vu (oM 1 V<|qB qm V<|qw 0 zj V V<|qw 1 vk V V<|yb 2 yU kc V V<|oM 1 V<|qB qZ V<|qw 0 zj V V<|.nl)<|λ_ hq=>XZ hq V V V (zg V _) V V (λw h=>(hM.load _ words owner q n ins.b ⟨h.zM 7 V,h.own 8 V,h.own 9 V,h.ok _ (zy (i:=10) V)⟩ l4 ZU za))<|?_
  have zji:ze.l.length<=140737488355328:=(wV.sh.own 5 V).len
  refine vu (vC zt zj (aO 5 V) zp V<|.nl)<|qN z21<|XK 5 (x4 (nth (M.qs q) n) words.l ins.b:Int) zj zp V V<|nN<|λa24 dN wJ=>?_;clear wV
  try simp only [Exit.then,Exit.inBlock,if_true]
  refine qj (fn:=Tryz.f146) V wJ ?_
  have hz:=(wJ.sh.zY (L' := [_,_,_,_,_,_,_,_,_,_]) [2,3,4,5,6,7,8,9,10,11] V)
  refine ⟨V,⟨ze.v,ze.l.set ins.a.toNat (x4 (nth (M.qs q) n) words.l ins.b)⟩,⟨words.v,words.l⟩,⟨owner.v,owner.l⟩,⟨zd.v,zd.l⟩,q,(nth (M.qs q) n),(nth zl.l n).pc,zq,(qy _ _).symm,?_,?_⟩
  · (refine zU ?_ (Z5 zc).symm;rfl)
  · rw [<-Ze Dm ht];exact hz
 refine sG (yK _ _ V<|oM 1 V<|.nl)<|gcd V (λI1 FI=>?_) λI1 FI=>?_
 ·skip
  have q9:=hR.o9 za
  have Ys:=GY.1 za
  refine y4 (aO 5 V) λzc4=>rT 14 [] (qw 1 vk V V<|yb 2 yU kc V V<|oM 1 V<|qB qm V<|qw 0 zj V V<|oM 1 V<|qB qZ V<|qw 0 zj V V<|vC zt zj (aO 5 V) zp V<|wx zj (aO 5 V) zp V<|oV (KS V V) V<|oM 1 V<|.nl)<|gO [7,8,9,10,0,1,2,3,4,5,6,11] V<|λa33 M9 Vb=>?_
  have n5:=Vb.sh.yT (Lp:= [_,_,_,_])
  refine zL (ZL Vb V V V V V (hM.store _ _ words owner q n ins.a (nth ze.l ins.b.toNat) n5 l4 za za)) (zg V _) ?_
  rintro pz mu ⟨_,⟨rfl,HZ,H8,q34,zhl,nR⟩,IM⟩
  change Sh _ _ _ [.zM M.g0 182 [HZ.v,H8.v],.own 3 HZ,.own 3 H8,M.X q34] at nR
  have YA:St 193 K W pz mu _ [_,_,_,_,_,_,_,_,_,_,_,_]:=⟨IM,Vb.sh.xP (Lp:= [_,_,_,_]) nR (by intro A hA b hb;simp only [z6,qd,or_false] at hA;rcases hA with rfl|rfl|rfl|rfl<;>first|exact (hb:False).elim|exact Flat.qh hb|exact .inl ⟨_,xx ..,.inr hb⟩|exact Nx hM hb|exact .inl ⟨_,by simp,.inr hb⟩)⟩
  clear IM nR
  clear Vb
  refine gG YA<|nN<|λa35 ME Yz=>?_;clear YA
  try simp only [Exit.then,Exit.inBlock,if_true]
  refine qj (fn:=Tryz.f146) V Yz ?_
  have hz:=(Yz.sh.zY (L' := [_,_,_,_,_,_,_,_,_,_]) [6,7,8,9,10,0,1,2,3,11] V)
  obtain ⟨wt,ic,nG⟩:=zhl
  refine ⟨V,⟨ze.v,ze.l⟩,⟨HZ.v,HZ.l⟩,⟨H8.v,H8.l⟩,⟨zd.v,zd.l⟩,q34,wt,(nth zl.l n).pc,zq,ic,?_,?_⟩
  · exact zU (nG _ _ _ _) (Z4 zc).symm
  · rw [<-Ze Dm ht];exact hz
 refine sG (yK _ _ V<|oM 1 V<|.nl)<|gcd V (λgw cV=>?_) λgw cV=>?_
 ·skip
  have q9:=hR.o10 za
  refine sK λ_ dP=>y4 (aO 5 V) λzjg=>zn (oM 2 V<|qB qZ V<|qw 0 zj V V<|vC zt zj (aO 5 V) zp V<|wx zj (aO 5 V) zp V<|.nl)<|gO [1,2,7,8,9,10,0,3,4,5,6,11] V<|λa45 w45 dV=>?_
  have FE:=dV.sh.yT (Lp:= [_,_,_,_,_,_])
  refine zL (zD dV Mc V V V V V (Se _ M g xX (nth ze.l ins.b.toNat) words owner q _ _ _ _ _ hM FE)) (zg V _) ?_
  rintro a46 w46 ⟨_,⟨rfl,zhF⟩,zjT⟩
  have B9:St 193 K W a46 w46 _ [_,_,_,_,_,_,_,_,_,_,_,_]:=⟨zjT,dV.sh.xP (Lp:= [_,_,_,_,_,_]) zhF (by intro A hA b hb;simp only [z6,qd,or_false] at hA;rcases hA with rfl|rfl|rfl|rfl|rfl|rfl<;>first|exact (hb:False).elim|exact Flat.qh hb|exact .inl ⟨_,xx ..,.inr hb⟩|exact Nx hM hb|exact .inl ⟨_,by simp,.inr hb⟩)⟩
  clear zjT zhF
  clear dV
  refine gG B9<|nK dP<|gF [1,3,5,6,59] V<|?_;clear B9
  refine gcd V (λzdv zqx=>?_) λzdv zqx=>?_
  ·skip
   intro Ao tt Yy
   refine ka 17 [] zb zb Yy λ_ z49=>qQ Yy.fr<|vu (oM 1 V<|qB qm V<|qw 6 zj V V<|qw 0 vk V V<|yb 1 yU kc V V<|oM 2 V<|qB qZ V<|qw 6 zj V V<|vC zt zj (aO 9 V) zp V<|wx zj (aO 9 V) zp V<|oV (KS V V) V<|oM 1 V<|.nl)<|λ_ hq=>XZ hq V V V (zg V _) V V (λw h=>(hM.load _ words owner q n (nth ze.l ins.b.toNat) ⟨h.zM 2 V,h.own 3 V,h.own 4 V,h.ok _ (zy (i:=5) V)⟩ l4 ZU za))<|vu (vC zt zj (aO 9 V) zp V<|.nl)<|qN z49<|XK 9 (x4 (nth (M.qs q) n) words.l (nth ze.l ins.b.toNat):Int) zj zp V V<|nN<|λa51 MC YZ=>?_;clear Yy
   try simp only [Exit.then,Exit.inBlock,if_true]
   refine qj (fn:=Tryz.f146) V YZ ?_
   have B4:(zq|| !decide (0<=nth ze.l ins.b.toNat/\nth ze.l ins.b.toNat<(words.l.length:Int)))=zq:=NO zdv
   have hz:=(YZ.sh.zY (L' := [_,_,_,_,_,_,_,_,_,_]) [1,7,8,9,10,2,3,4,5,11] V)
   rw [B4] at hz
   refine ⟨V,⟨ze.v,ze.l.set ins.a.toNat (x4 (nth (M.qs q) n) words.l (nth ze.l ins.b.toNat))⟩,⟨words.v,words.l⟩,⟨owner.v,owner.l⟩,⟨zd.v,zd.l⟩,q,(nth (M.qs q) n),(nth zl.l n).pc,zq,(qy _ _).symm,?_,?_⟩
   · first|(refine zU ?_ (vf zc zc).symm;rfl)|(refine zU ?_ (vg zc zc).symm;rfl)
   · rw [<-Ze Dm ht];exact hz
  refine gS<|λMV MB G0=>?_
  try simp only [Exit.then,Exit.inBlock,if_true]
  refine qj (fn:=Tryz.f146) V G0 ?_
  have B4:(zq|| !decide (0<=nth ze.l ins.b.toNat/\nth ze.l ins.b.toNat<(words.l.length:Int)))=true:=NN zdv
  have hz:=(G0.sh.zY (L' := [_,_,_,_,_,_,_,_,_,_]) [1,7,8,9,10,2,3,4,5,11] V)
  rw [B4] at hz
  refine ⟨V,⟨ze.v,ze.l⟩,⟨words.v,words.l⟩,⟨owner.v,owner.l⟩,⟨zd.v,zd.l⟩,q,(nth (M.qs q) n),(nth zl.l n).pc,true,(qy _ _).symm,?_,?_⟩
  · first|(refine zU ?_ (vf zc zc).symm;rfl)|(refine zU ?_ (vg zc zc).symm;rfl)
  · rw [<-Ze Dm ht];exact hz
 refine sG (yK _ _ V<|oM 1 V<|.nl)<|gcd V (λzdt nZ=>?_) λzdt nZ=>?_
 ·skip
  have q9:=hR.o10 za
  have Ys:=GY.1 za
  refine sK λ_ Sx=>y4 (aO 5 V) λzre=>zn (oM 2 V<|qB qm V<|qw 0 zj V V<|vC zt zj (aO 5 V) zp V<|wx zj (aO 5 V) zp V<|.nl)<|gO [1,2,7,8,9,10,0,3,4,5,6,11] V<|λa62 w62 O6=>?_
  have zqr:=O6.sh.yT (Lp:= [_,_,_,_,_,_])
  refine zL (zD O6 Mc V V V V V (Se _ M g xX (nth ze.l ins.a.toNat) words owner q _ _ _ _ _ hM zqr)) (zg V _) ?_
  rintro a63 w63 ⟨_,⟨rfl,zhz⟩,zjK⟩
  have U6:St 193 K W a63 w63 _ [_,_,_,_,_,_,_,_,_,_,_,_]:=⟨zjK,O6.sh.xP (Lp:= [_,_,_,_,_,_]) zhz (by intro A hA b hb;simp only [z6,qd,or_false] at hA;rcases hA with rfl|rfl|rfl|rfl|rfl|rfl<;>first|exact (hb:False).elim|exact Flat.qh hb|exact .inl ⟨_,xx ..,.inr hb⟩|exact Nx hM hb|exact .inl ⟨_,by simp,.inr hb⟩)⟩
  clear zjK zhz
  clear O6
  refine gG U6<|nK Sx<|gF [1,3,5,6,85] V<|?_;clear U6
  refine gcd V (λoE FA=>?_) λoE FA=>?_
  ·skip
   refine rT 17 [] (qw 0 vk V V<|yb 1 yU kc V V<|oM 2 V<|qB qm V<|qw 6 zj V V<|vC zt zj (aO 9 V) zp V<|wx zj (aO 9 V) zp V<|oM 1 V<|qB qZ V<|qw 6 zj V V<|vC zt zj (aO 9 V) zp V<|wx zj (aO 9 V) zp V<|oV (KS V V) V<|oM 1 V<|.nl)<|gO [2,3,4,5,0,1,6,7,8,9,10,11] V<|λa70 w70 BH=>?_
   have zqn:=BH.sh.yT (Lp:= [_,_,_,_])
   refine zL (ZL BH V V V V V (hM.store _ _ words owner q n (nth ze.l ins.a.toNat) (nth ze.l ins.b.toNat) zqn l4 za za)) (zg V _) ?_
   rintro a71 w71 ⟨_,⟨rfl,HY,H7,q71,zhk,zcc⟩,zjI⟩
   change Sh _ _ _ [.zM M.g0 182 [HY.v,H7.v],.own 3 HY,.own 3 H7,M.X q71] at zcc
   have dU:St 193 K W a71 w71 _ [_,_,_,_,_,_,_,_,_,_,_,_]:=⟨zjI,BH.sh.xP (Lp:= [_,_,_,_]) zcc (by intro A hA b hb;simp only [z6,qd,or_false] at hA;rcases hA with rfl|rfl|rfl|rfl<;>first|exact (hb:False).elim|exact Flat.qh hb|exact .inl ⟨_,xx ..,.inr hb⟩|exact Nx hM hb|exact .inl ⟨_,by simp,.inr hb⟩)⟩
   clear zjI zcc
   clear BH
   refine gG dU<|nN<|λa72 w72 h72=>?_;clear dU
   try simp only [Exit.then,Exit.inBlock,if_true]
   refine qj (fn:=Tryz.f146) V h72 ?_
   have B4:(zq|| !decide (0<=nth ze.l ins.a.toNat/\nth ze.l ins.a.toNat<(words.l.length:Int)))=zq:=NO oE
   have hz:=(h72.sh.zY (L' := [_,_,_,_,_,_,_,_,_,_]) [5,7,8,9,10,0,1,2,3,11] V)
   rw [B4] at hz
   obtain ⟨wt,ic,nG⟩:=zhk
   refine ⟨V,⟨ze.v,ze.l⟩,⟨HY.v,HY.l⟩,⟨H7.v,H7.l⟩,⟨zd.v,zd.l⟩,q71,wt,(nth zl.l n).pc,zq,ic,?_,?_⟩
   · exact zU (nG _ _ _ _) (vQ zc zc).symm
   · rw [<-Ze Dm ht];exact hz
  refine gS<|λa73 w73 h73=>?_
  try simp only [Exit.then,Exit.inBlock,if_true]
  refine qj (fn:=Tryz.f146) V h73 ?_
  have B4:(zq|| !decide (0<=nth ze.l ins.a.toNat/\nth ze.l ins.a.toNat<(words.l.length:Int)))=true:=NN oE
  have hz:=(h73.sh.zY (L' := [_,_,_,_,_,_,_,_,_,_]) [1,7,8,9,10,2,3,4,5,11] V)
  rw [B4] at hz
  refine ⟨V,⟨ze.v,ze.l⟩,⟨words.v,words.l⟩,⟨owner.v,owner.l⟩,⟨zd.v,zd.l⟩,q,(nth (M.qs q) n),(nth zl.l n).pc,true,(qy _ _).symm,?_,?_⟩
  · (refine zU ?_ (vR zc zc).symm;rfl)
  · rw [<-Ze Dm ht];exact hz
 refine sG (yK _ _ V<|oM 1 V<|.nl)<|gcd V (λzsa zql=>?_) λzsa zql=>?_
 ·skip
  have q9:=hR.o13 za
  have Ys:=GY.2.1 zc
  have ID:x4 (nth (M.qs q) n) words.l ins.a=nth words.l ins.a.toNat:=Y6 (λj hj=>absurd hj za)
  refine gK λ_ k76=>λa77 w77 O5=>wS zb zb O5 λ_ z78=>qQ O5.fr<|vu (qw 1 vk V V<|yb 2 yU kc V V<|oM 1 V<|qB qm V<|qw 0 zj V V<|.nl)<|λ_ hq=>XZ hq V V V (zg V _) V V (λw h=>(hM.load _ words owner q n ins.a ⟨h.zM 7 V,h.own 8 V,h.own 9 V,h.ok _ (zy (i:=10) V)⟩ l4 ZU za))<|vu (oM 1 V<|qB qZ V<|qw 0 zj V V<|.nl)<|?_
  have zxh:ze.l.length<=140737488355328:=(O5.sh.own 5 V).len
  refine vu (vC zt zj (aO 5 V) zp V<|wx zj (aO 5 V) zp V<|yK _ _ V<|oM 1 V<|.nl)<|qN z78<|hK k76<|gF [1,3,5,6,8] V<|gK λ_ k80=>sG (oM 1 V<|.nl)<|?_;clear O5
  refine gcd V (λzdq zqh=>?_) λzdq zqh=>?_
  ·skip
   refine rT 14 [] (qw 1 vk V V<|yb 2 yU kc V V<|oM 1 V<|qB qm V<|qw 0 zj V V<|oM 1 V<|qB gh V<|qw 0 zj V V<|vC zt zj (aO 5 V) zp V<|wx zj (aO 5 V) zp V<|oV (KS V V) V<|oM 1 V<|.nl)<|gO [7,8,9,10,0,1,2,3,4,5,6,11] V<|λa88 w88 h88=>?_
   have Fz:=h88.sh.yT (Lp:= [_,_,_,_])
   refine zL (ZL h88 V V V V V (hM.swap _ _ words owner q n ins.a (nth ze.l ins.c.toNat) Fz za)) (zg V _) ?_
   rintro a89 w89 ⟨_,⟨rfl,HX,H6,q89,zhj,zca⟩,zjE⟩
   change Sh _ _ _ [.zM M.g0 182 [HX.v,H6.v],.own 3 HX,.own 3 H6,M.X q89] at zca
   have oL:St 193 K W a89 w89 _ [_,_,_,_,_,_,_,_,_,_,_,_]:=⟨zjE,h88.sh.xP (Lp:= [_,_,_,_]) zca (by intro A hA b hb;simp only [z6,qd,or_false] at hA;rcases hA with rfl|rfl|rfl|rfl<;>first|exact (hb:False).elim|exact Flat.qh hb|exact .inl ⟨_,xx ..,.inr hb⟩|exact Nx hM hb|exact .inl ⟨_,by simp,.inr hb⟩)⟩
   clear zjE zca
   clear h88
   refine gG oL<|nK k80<|λa90 w90 mc=>ka 6 [] zb zb mc λ_ z91=>qQ mc.fr<|vu (oM 1 V<|qB qZ V<|qw 4 zj V V<|oM 1 V<|.nl)<|qP dG V (λw h=>(zbe zdq _))<|vu (vC zt zj (aO 9 V) zp V<|.nl)<|qN z91<|XK 9 (1:Int) zj zp V V<|nN<|λa93 w93 uV=>?_;clear oL mc
   try simp only [Exit.then,Exit.inBlock,if_true]
   refine qj (fn:=Tryz.f146) V uV ?_
   have hz:=(uV.sh.zY (L' := [_,_,_,_,_,_,_,_,_,_]) [6,7,8,9,10,0,1,2,3,11] V)
   obtain ⟨Oq,hw2⟩:=swap_eq (n:=n) (pc:=(nth zl.l n).pc) (ze:=ze.l.set ins.b.toNat 1) (zd:=zd.l) (zq:=zq) zhj
   refine ⟨V,⟨ze.v,ze.l.set ins.b.toNat 1⟩,⟨HX.v,HX.l⟩,⟨H6.v,H6.l⟩,⟨zd.v,zd.l⟩,q89,(nth (M.qs q) n),(nth zl.l n).pc,zq,Oq,?_,?_⟩
   · (refine zU hw2 (vO (x:=(⟨(nth zl.l n).pc,ze.l,nth (M.qs q) n,words.l,owner.l,zd.l,zq⟩:TS)) zc (ID.symm.trans zc)).symm)
   · rw [<-Ze Dm ht];exact hz
  refine gS<|hK k80<|λa94 w94 MS=>ka 6 [] zb zb MS λ_ z95=>qQ MS.fr<|vu (oM 1 V<|qB qZ V<|qw 0 zj V V<|oM 1 V<|.nl)<|qP dG V (λw h=>(zbf zdq _))<|vu (vC zt zj (aO 5 V) zp V<|.nl)<|qN z95<|XK 5 (0:Int) zj zp V V<|nN<|λa97 w97 uU=>?_;clear MS
  try simp only [Exit.then,Exit.inBlock,if_true]
  refine qj (fn:=Tryz.f146) V uU ?_
  have hz:=(uU.sh.zY (L' := [_,_,_,_,_,_,_,_,_,_]) [2,3,4,5,6,7,8,9,10,11] V)
  refine ⟨V,⟨ze.v,ze.l.set ins.b.toNat 0⟩,⟨words.v,words.l⟩,⟨owner.v,owner.l⟩,⟨zd.v,zd.l⟩,q,(nth (M.qs q) n),(nth zl.l n).pc,zq,(qy _ _).symm,?_,?_⟩
  · (refine zU ?_ (vP zc (λh9=>absurd (ID.trans h9) zc)).symm;rfl)
  · rw [<-Ze Dm ht];exact hz
 refine sG (yK _ _ V<|oM 1 V<|.nl)<|gF [1,3,5,19,142] V<|gcd V (λzr2 zp9=>?_) λzr2 zp9=>?_
 ·skip
  have q9:=hR.MH za
  intro zmb zf3 Gu
  refine ka 12 [] zb zb Gu λ_ zno=>qQ Gu.fr<|vu (qw 1 vk V V<|yb 2 yU kc V V<|.nl)<|λ_ hq=>XZ hq V V V (zg V _) V V (λw h=>(hM.base _ words owner q ⟨h.zM 7 V,h.own 8 V,h.own 9 V,h.ok _ (zy (i:=10) V)⟩))<|vu (yb 7 Zp zV V V<|qB qm V<|qw 0 zj V V<|oM 1 V<|.nl)<|?_
  have zuc:owner.l.length<=140737488355328:=(Gu.sh.own 9 V).len
  refine vu (vC zt zj (aO 9 V) zp V<|.nl)<|qN zno<|XK 9 (((n:Nat):Int):Int) zj zp V V<|nN<|λzl9 zf1 dp=>?_;clear Gu
  try simp only [Exit.then,Exit.inBlock,if_true]
  refine qj (fn:=Tryz.f146) V dp ?_
  have hz:=(dp.sh.zY (L' := [_,_,_,_,_,_,_,_,_,_]) [2,3,4,5,6,7,8,9,10,11] V)
  refine ⟨V,⟨ze.v,ze.l⟩,⟨words.v,words.l⟩,⟨owner.v,owner.l.set ins.a.toNat ((n:Nat):Int)⟩,⟨zd.v,zd.l⟩,q,(nth (M.qs q) n),(nth zl.l n).pc,zq,(qy _ _).symm,?_,?_⟩
  · (refine zU ?_ (kY zc).symm;rfl)
  · rw [<-Ze Dm ht];exact hz
 refine sG (yK _ _ V<|oM 1 V<|.nl)<|gcd V (λI3 FN=>?_) λI3 FN=>?_
 ·skip
  have q9:=hR.MH za
  have Ys:=GY.1 za
  refine gK λ_ uA=>gK λ_ uz=>λa109 znF af=>wS zb zb af λ_ zfE=>qQ af.fr<|vu (qw 1 vk V V<|yb 2 yU kc V V<|.nl)<|λ_ hq=>XZ hq V V V (zg V _) V V (λw h=>(hM.base _ words owner q ⟨h.zM 7 V,h.own 8 V,h.own 9 V,h.ok _ (zy (i:=10) V)⟩))<|vu (yb 7 Zp zV V V<|qB qm V<|qw 0 zj V V<|.nl)<|?_
  have zua:owner.l.length<=140737488355328:=(af.sh.own 9 V).len
  refine vu (vC zt zj (aO 9 V) zp V<|wx zj (aO 9 V) zp V<|oM 1 V<|QW _ _ V<|oM 1 V<|.nl)<|?_
  rcases G3 (nth owner.l ins.a.toNat≠((n:Nat):Int)) with ⟨JI,FK⟩|⟨JI,FK⟩
  ·skip
   refine vu (Zy 8 JI V V<|QV JI V<|.nl)<|qN zfE<|?_;clear af
   refine hK uz<|gF [1,3,5,181] V<|BJ V V<|sK λ_ uy=>zn (qw 1 vk V V<|jA Zq V<|.nl)<|dX (v:= .bool true) 2 w5 V V V<|nK uy<|gR<|uT<|uB<|λa116 zfX Gt=>Vc (fn:=Tryz.f146) V Gt ?_
   have hz:=(Gt.sh.zY (L' := [_,_,_,_,_,_,_,_,_,_]) [2,3,4,5,6,7,8,9,10,11] V)
   refine ⟨V,⟨ze.v,ze.l⟩,⟨words.v,words.l⟩,⟨owner.v,owner.l⟩,⟨zd.v,zd.l⟩,q,(nth (M.qs q) n),(nth zl.l n).pc,true,(qy _ _).symm,?_,?_⟩
   · (refine zU ?_ (aH zc (by first|exact .inl za|exact .inr zc)).symm;rfl)
   · rw [<-Ze Dm ht];exact hz
  refine vu (oG JI (xV (i:=1) vk V V V V) V<|oG JI (jC V V) V<|oG JI (zT (r:=0) yU V V V) V<|oG JI (xV (i:=2) kc V V V V) V<|oG JI (zG V V) V<|oG JI (zT (r:=1) qm V V V) V<|oG JI (xV (i:=0) zj V V V V) V<|.nl)<|λ_ hq=>XZ hq V V V (jx hq V V V V JI) V V (λw h=>(hM.Gx _ words owner q n ins.a ⟨h.zM 7 V,h.own 8 V,h.own 9 V,h.ok _ (zy (i:=10) V)⟩ l4 ZU nH))<|vu (Zx JI V<|.nl)<|qN zfE<|?_;clear af
  refine hK uz<|gF [1,3,5,181] V<|Xl V (λzkE=>?_) λzkE=>?_
  ·skip
   refine sK λ_ zbD=>zn (qw 1 vk V V<|jA Zq V<|.nl)<|dX (v:= .bool true) 2 w5 V V V<|nK zbD<|gR<|uT<|uB<|λzeP zaE DN=>Vc (fn:=Tryz.f146) V DN ?_
   have hz:=(DN.sh.zY (L' := [_,_,_,_,_,_,_,_,_,_]) [2,3,4,5,6,7,8,9,10,11] V)
   refine ⟨V,⟨ze.v,ze.l⟩,⟨words.v,words.l⟩,⟨owner.v,owner.l⟩,⟨zd.v,zd.l⟩,q,(nth (M.qs q) n),(nth zl.l n).pc,true,(qy _ _).symm,?_,?_⟩
   · (refine zU ?_ (aH zc (by first|exact .inl za|exact .inr zc)).symm;rfl)
   · rw [<-Ze Dm ht];exact hz
  refine gS<|hK uA<|rT 7 [] (qw 1 vk V V<|yb 2 yU kc V V<|oM 1 V<|qB qm V<|qw 0 zj V V<|.nl)<|gO [7,8,9,10,0,1,2,3,4,5,6,11] V<|λzy5 zvp O8=>?_
  have zie:=O8.sh.yT (Lp:= [_,_,_,_])
  refine zL (ZL O8 V V V V V (hM.free _ _ words owner q n ins.a zie l4 za za)) (zg V _) ?_
  rintro zl2 zfR ⟨_,⟨rfl,KJ,KW,zgj,zb5,Fg⟩,Tx⟩
  change Sh _ _ _ [.zM M.g0 182 [KJ.v,KW.v],.own 3 KJ,.own 3 KW,M.X zgj] at Fg
  have Ld:St 193 K W zl2 zfR _ [_,_,_,_,_,_,_,_,_,_,_,_]:=⟨Tx,O8.sh.xP (Lp:= [_,_,_,_]) Fg (by intro A hA b hb;simp only [z6,qd,or_false] at hA;rcases hA with rfl|rfl|rfl|rfl<;>first|exact (hb:False).elim|exact Flat.qh hb|exact .inl ⟨_,xx ..,.inr hb⟩|exact Nx hM hb|exact .inl ⟨_,by simp,.inr hb⟩)⟩
  clear Tx Fg
  clear O8
  refine gG Ld<|nN<|λzs9 znB Lc=>?_;clear Ld
  try simp only [Exit.then,Exit.inBlock,if_true]
  refine qj (fn:=Tryz.f146) V Lc ?_
  have hz:=(Lc.sh.zY (L' := [_,_,_,_,_,_,_,_,_,_]) [6,7,8,9,10,0,1,2,3,11] V)
  obtain ⟨wt,ic,nG⟩:=zb5
  refine ⟨V,⟨ze.v,ze.l⟩,⟨KJ.v,KJ.l⟩,⟨KW.v,KW.l⟩,⟨zd.v,zd.l⟩,zgj,wt,(nth zl.l n).pc,zq,ic,?_,?_⟩
  · exact zU (nG _ _ _ _) (ud zc za zc).symm
  · rw [<-Ze Dm ht];exact hz
 refine gS<|λzeO zaD UA=>?_
 try simp only [Exit.then,Exit.inBlock,if_true]
 refine qj (fn:=Tryz.f146) V UA ?_
 have hz:=(UA.sh.zY (L' := [_,_,_,_,_,_,_,_,_,_]) [2,3,4,5,6,7,8,9,10,11] V)
 refine ⟨V,⟨ze.v,ze.l⟩,⟨words.v,words.l⟩,⟨owner.v,owner.l⟩,⟨zd.v,zd.l⟩,q,(nth (M.qs q) n),(nth zl.l n).pc,zq,(qy _ _).symm,?_,?_⟩
 · (refine zU ?_ (CZ za za).symm;rfl)
 · rw [<-Ze Dm ht];exact hz
theorem zgm (K:Nat->Prop)(M:Qy)(g gp:Nat)(code:Ls (Ls Ins))(zl:Ls jn)(ze zd words owner:Ls Int)(q:M.σ)(pw:Value)(zm z8:Int)(zq:Bool)(n:Nat)(k:Nat)(W:World)(hM:KA Tryz.prog 182 3 M)(hS:Sh K W W [.zM g 173 [.iface M.T (.pointer (some M.u)),.pointer (some ⟨gp,0,none⟩),zl.v,zd.v,.bool zq],.zx gp 25 [code.v,pw,.int .i64 zm,.int .i64 z8],.own 189 zl,.own 3 ze,.own 3 zd,.zM M.g0 182 [words.v,owner.v],.own 3 words,.own 3 owner,M.X q,.at_ code])(ht:n<zl.l.length)(htn:n<=1000)(Dm:(nth zl.l n).rv=ze.v)(l4:n<(M.qs q).length)(ZU:(nth (M.qs q) n).length<=3)(nH:∀x∈nth (M.qs q) n,x.lock=true->x.qk=0)(Vs:∀v∈owner.l,-1<=v)(SH:n<code.l.length)(zh1:0<=(nth zl.l n).pc/\(nth zl.l n).pc<=(nth code.l n).l.length)(zh2:(nth code.l n).l.length<=1000000)(B0:xp M.m (nth code.l n).l (⟨(nth zl.l n).pc,ze.l,nth (M.qs q) n,words.l,owner.l,zd.l,zq⟩:TS) k=true)(Rf:zd.l.length<=100000000)(Df:∀j,j<(nth (M.qs q) n).length->Ap (nth (nth (M.qs q) n) j) words owner)(Is:k=0->GV ze.l.length words.l.length owner.l.length (zo (nth code.l n).l (nth zl.l n).pc)):
    zP Tryz.prog 123 [.pointer (some ⟨g,0,none⟩),.agg #[.int .i64 ((n:Nat):Int),.int .i64 (((k:Nat):Int)-1)]] W (λv w' =>v= .tuple #[]/\zau K W 173 189 3 182 25 M g gp n [code.v,pw,.int .i64 zm,.int .i64 z8] zl q (XY M.m n (nth code.l n).l k (⟨(nth zl.l n).pc,ze.l,nth (M.qs q) n,words.l,owner.l,zd.l,zq⟩:TS)) code w'):=by
 refine gen Tryz.func123 Tryz.ntmps123 hS V λjP z7=>gG z7<|sK λ_ kz=>XV V V λxX=>nK kz<|gK λ_ gu=>y4 (aO 3 V) λDv=>rQ (oM 1 V<|yb 1 xM wb V V<|qB Vw V<|qw 0 zj V V<|jo wL kI (aO 3 V) _ zp V<|oM 1 V<|.nl)<|hK gu<|gK λ_ Xe=>sG (qB lv V<|qw 0 zj V V<|nc _ _ V<|.nl)<|?_;clear z7
 refine gcd V (λzdA zcE=>?_) λzdA zcE=>?_
 ·skip
  have OS:k-1<(nth (M.qs q) n).length:=by rcases kj B0 with ⟨h9,_⟩|⟨h9,h8,_⟩;omega;(change k<=(nth (M.qs q) n).length at h8;omega)
  refine gK λ_ JH=>rT 8 [] (oM 1 V<|yb 1 yU kc V V<|qB Vw V<|qw 0 zj V V<|qB lv V<|qw 0 zj V V<|.nl)<|λa20 mw wV=>?_
  have XU:=wV.same (d:=25) (v' := .int .i64 ((k-1:Nat):Int)) V (by rw [show ((k:Nat):Int)-1=((k-1:Nat):Int) from za])
  clear wV
  have wJ:=XU.zY (L' := [_,_,_,_,_,_,_,_,_,_,_]) [6,7,8,9,0,1,2,3,4,5,10] V
  have cY:=wJ.sh.yT (Lp:= [_,_,_,_])
  refine zL (ZL wJ V V V V V (hM.flush _ _ words owner q n (k-1) cY l4 ZU OS Df)) (zg V _) ?_
  rintro a26 lX ⟨_,⟨rfl,H0,H9,q26,zhm,HI⟩,IP⟩
  change Sh _ _ _ [.zM M.g0 182 [H0.v,H9.v],.own 3 H0,.own 3 H9,M.X q26] at HI
  have Y0:St 196 K W a26 lX _ [_,_,_,_,_,_,_,_,_,_,_]:=⟨IP,wJ.sh.xP (Lp:= [_,_,_,_]) HI (by intro A hA b hb;simp only [z6,qd,or_false] at hA;rcases hA with rfl|rfl|rfl|rfl<;>first|exact (hb:False).elim|exact Flat.qh hb|exact .inl ⟨_,xx ..,.inr hb⟩|exact Nx hM hb|exact .inl ⟨_,by simp,.inr hb⟩)⟩
  clear IP HI
  clear wJ
  refine gG Y0<|nK JH<|gF [] V<|gR<|uT<|λMW MG Ko=>Vc (fn:=Tryz.f123) V Ko ?_;clear Y0
  have hz:=(Ko.sh.zY (L' := [_,_,_,_,_,_,_,_,_,_]) [5,6,7,8,9,0,1,2,3,10] V)
  obtain ⟨wt,ic,nG⟩:=zhm
  refine ⟨V,⟨ze.v,ze.l⟩,⟨H0.v,H0.l⟩,⟨H9.v,H9.l⟩,⟨zd.v,zd.l⟩,q26,wt,(nth zl.l n).pc,zq,ic,?_,?_⟩
  · exact (nG _ _ _ _).trans (zbd za).symm
  · rw [<-Ze Dm ht];exact hz
 refine gS<|hK Xe<|sK λ_ K6=>zn (oM 1 V<|qB Vw V<|qw 0 zj V V<|.nl)<|λec ak Qp=>zL (zD Qp dH V V V V V (H5 M g gp code zl words owner q _ _ _ _ _ n _ hM (Qp.sh.zM 1 V) (Qp.sh.zx 2 V) (Qp.sh.at 10 V) (Qp.sh.own 3 V) ⟨Qp.sh.zM 6 V,Qp.sh.own 7 V,Qp.sh.own 8 V,Qp.sh.ok _ (zy (i:=9) V)⟩ za za za)) (zg V _) ?_
 rintro a31 dM ⟨_,⟨zg6,Dl⟩,iU⟩
 obtain ⟨ins,xv⟩:∃i,i=zo (nth code.l n).l (nth zl.l n).pc:=⟨_,V⟩
 rw [<-xv] at zg6
 subst zg6
 have ZW:St 196 K W a31 dM _ _:=⟨iU,Qp.sh.jv Dl⟩
 clear iU Dl
 clear Qp
 refine gG ZW<|zn (oM 1 V<|kK V<|kK V<|.nl)<|Q2 qG V λb32=>YK 0 qG V V V<|zn (oM 1 V<|.nl)<|nK K6<|?_;clear ZW
 have hR:=Is za
 rw [<-xv] at hR
 have zdC:=tg B0 za
 change (nth zl.l n).pc<_/\q7 owner.l (nth (M.qs q) n).length (zo (nth code.l n).l (nth zl.l n).pc)=true at zdC
 rw [<-xv] at zdC
 have GY:=zdB zdC.2
 refine sK λ_ BA=>zn (oM 1 V<|cz V<|QB Qq V<|wx zj (aO 4 V) zp V<|zgv _ _ zp V<|cz V<|QB Qq V<|.nl)<|XK 4 ({ nth zl.l n with pc:=((nth zl.l n).pc)+1 } :jn) zj zp V V<|nK BA<|gF [0,3,4,5] V<|?_
 obtain ⟨tl,Zz⟩:∃tl,tl=zl.l.set n ({ nth zl.l n with pc:=((nth zl.l n).pc)+1 }):=⟨_,V⟩
 intro py lV QJ
 have zk2:=QJ.Jb (i:=4) (l' :=tl) V Zz.symm
 clear QJ
 rw [zba Dm] at Zz
 have zpo:tl.length=zl.l.length:=by rw [Zz,XP]
 have Ow:(nth tl n).rv=ze.v:=by rw [Zz,jt,if_pos ⟨V,ht⟩]
 have Fy:(nth tl n).pc=(nth zl.l n).pc+1:=by rw [Zz,jt,if_pos ⟨V,ht⟩]
 refine gG zk2<|sG (oM 1 V<|cz V<|QB XL V<|oV (Rn.same (x6 (s:=(⟨zl.v,tl⟩:Ls jn)) (i:=n) (v:=((nth tl n).rv)) zV V V V (λw h=>(h.own 4 V)) (show n<tl.length from zp) (y5 V) V) Ow) V<|oM 1 V<|.nl)<|sG (qB xL V<|qw 0 zj V V<|.nl)<|gB<|sG (yK _ _ V<|oM 1 V<|.nl)<|?_;clear zk2
 refine gcd V (λoH zcA=>?_) λoH zcA=>?_
 ·skip
  have q9:=hR.o1 za
  refine gL<|y4 (aO 5 V) λzxv=>zn (oM 1 V<|qB qm V<|qw 0 zj V V<|qB qZ V<|qw 0 zj V V<|vC zt zj (aO 5 V) zp V<|.nl)<|XK 5 (ins.b:Int) zj zp V V<|nN<|λPQ MD J2=>?_
  try simp only [Exit.then,Exit.inBlock,if_true]
  refine qj (fn:=Tryz.f123) V J2 ?_
  have hz:=(J2.sh.zY (L' := [_,_,_,_,_,_,_,_,_,_]) [2,3,4,5,6,7,8,9,10,11] V)
  refine ⟨V,⟨ze.v,ze.l.set ins.a.toNat ins.b⟩,⟨words.v,words.l⟩,⟨owner.v,owner.l⟩,⟨zd.v,zd.l⟩,q,nth (M.qs q) n,(nth zl.l n).pc+1,zq,(qy _ _).symm,?_,?_⟩
  · refine zU ?_ (xO za).symm;show _=zJ M.m n (zo (nth code.l n).l (nth zl.l n).pc) _;rw [<-xv];(refine zU ?_ (Qc zc).symm;rfl)
  · rw [Zz] at hz;exact hz
 refine sG (yK _ _ V<|oM 1 V<|.nl)<|gcd V (λc9 FD=>?_) λc9 FD=>?_
 ·skip
  have q9:=hR.o2 za
  refine y4 (aO 5 V) λzc3=>rT 9 [] (oM 1 V<|qB qm V<|qw 0 zj V V<|oM 1 V<|qB qZ V<|qw 0 zj V V<|vC zt zj (aO 5 V) zp V<|wx zj (aO 5 V) zp V<|vC zt zj (aO 5 V) zp V<|.nl)<|XK 5 (nth ze.l ins.b.toNat:Int) zj zp V V<|nN<|λAo tt Yy=>?_
  try simp only [Exit.then,Exit.inBlock,if_true]
  refine qj (fn:=Tryz.f123) V Yy ?_
  have hz:=(Yy.sh.zY (L' := [_,_,_,_,_,_,_,_,_,_]) [2,3,4,5,6,7,8,9,10,11] V)
  refine ⟨V,⟨ze.v,ze.l.set ins.a.toNat (nth ze.l ins.b.toNat)⟩,⟨words.v,words.l⟩,⟨owner.v,owner.l⟩,⟨zd.v,zd.l⟩,q,nth (M.qs q) n,(nth zl.l n).pc+1,zq,(qy _ _).symm,?_,?_⟩
  · refine zU ?_ (xO za).symm;show _=zJ M.m n (zo (nth code.l n).l (nth zl.l n).pc) _;rw [<-xv];(refine zU ?_ (Qb zc).symm;rfl)
  · rw [Zz] at hz;exact hz
 refine sG (yK _ _ V<|oM 1 V<|.nl)<|gcd V (λZm cT=>?_) λZm cT=>?_
 ·skip
  have q9:=hR.o3 za
  refine y4 (aO 5 V) λzxr=>rT 15 [] (oM 1 V<|qB qm V<|qw 0 zj V V<|oM 1 V<|qB qZ V<|qw 0 zj V V<|vC zt zj (aO 5 V) zp V<|wx zj (aO 5 V) zp V<|oM 1 V<|qB gh V<|qw 0 zj V V<|vC zt zj (aO 5 V) zp V<|wx zj (aO 5 V) zp V<|oV (RX (p:=nth ze.l ins.b.toNat) (q:=nth ze.l ins.c.toNat) V V V) V<|vC zt zj (aO 5 V) zp V<|.nl)<|XK 5 (wrap64 ((nth ze.l ins.b.toNat)+(nth ze.l ins.c.toNat)):Int) zj zp V V<|nN<|λa53 w53 mf=>?_
  try simp only [Exit.then,Exit.inBlock,if_true]
  refine qj (fn:=Tryz.f123) V mf ?_
  have hz:=(mf.sh.zY (L' := [_,_,_,_,_,_,_,_,_,_]) [2,3,4,5,6,7,8,9,10,11] V)
  refine ⟨V,⟨ze.v,ze.l.set ins.a.toNat (wrap64 ((nth ze.l ins.b.toNat)+(nth ze.l ins.c.toNat)))⟩,⟨words.v,words.l⟩,⟨owner.v,owner.l⟩,⟨zd.v,zd.l⟩,q,nth (M.qs q) n,(nth zl.l n).pc+1,zq,(qy _ _).symm,?_,?_⟩
  · refine zU ?_ (xO za).symm;show _=zJ M.m n (zo (nth code.l n).l (nth zl.l n).pc) _;rw [<-xv];(refine zU ?_ (Qa zc).symm;rfl)
  · rw [Zz] at hz;exact hz
 refine sG (yK _ _ V<|oM 1 V<|.nl)<|gcd V (λc8 zqu=>?_) λc8 zqu=>?_
 ·skip
  have q9:=hR.o3 za
  refine y4 (aO 5 V) λzre=>rT 15 [] (oM 1 V<|qB qm V<|qw 0 zj V V<|oM 1 V<|qB qZ V<|qw 0 zj V V<|vC zt zj (aO 5 V) zp V<|wx zj (aO 5 V) zp V<|oM 1 V<|qB gh V<|qw 0 zj V V<|vC zt zj (aO 5 V) zp V<|wx zj (aO 5 V) zp V<|oV (mP (p:=nth ze.l ins.b.toNat) (q:=nth ze.l ins.c.toNat) V V V) V<|vC zt zj (aO 5 V) zp V<|.nl)<|XK 5 (wrap64 ((nth ze.l ins.b.toNat)-(nth ze.l ins.c.toNat)):Int) zj zp V V<|nN<|λa58 w58 MT=>?_
  try simp only [Exit.then,Exit.inBlock,if_true]
  refine qj (fn:=Tryz.f123) V MT ?_
  have hz:=(MT.sh.zY (L' := [_,_,_,_,_,_,_,_,_,_]) [2,3,4,5,6,7,8,9,10,11] V)
  refine ⟨V,⟨ze.v,ze.l.set ins.a.toNat (wrap64 ((nth ze.l ins.b.toNat)-(nth ze.l ins.c.toNat)))⟩,⟨words.v,words.l⟩,⟨owner.v,owner.l⟩,⟨zd.v,zd.l⟩,q,nth (M.qs q) n,(nth zl.l n).pc+1,zq,(qy _ _).symm,?_,?_⟩
  · refine zU ?_ (xO za).symm;show _=zJ M.m n (zo (nth code.l n).l (nth zl.l n).pc) _;rw [<-xv];(refine zU ?_ (Z9 zc).symm;rfl)
  · rw [Zz] at hz;exact hz
 refine sG (yK _ _ V<|oM 1 V<|.nl)<|gcd V (λzds zcy=>?_) λzds zcy=>?_
 ·skip
  have q9:=hR.o3 za
  refine y4 (aO 5 V) λOQ=>rT 15 [] (oM 1 V<|qB qm V<|qw 0 zj V V<|oM 1 V<|qB qZ V<|qw 0 zj V V<|vC zt zj (aO 5 V) zp V<|wx zj (aO 5 V) zp V<|oM 1 V<|qB gh V<|qw 0 zj V V<|vC zt zj (aO 5 V) zp V<|wx zj (aO 5 V) zp V<|oV (mQ (p:=nth ze.l ins.b.toNat) (q:=nth ze.l ins.c.toNat) V V V) V<|vC zt zj (aO 5 V) zp V<|.nl)<|XK 5 (wrap64 ((nth ze.l ins.b.toNat)*(nth ze.l ins.c.toNat)):Int) zj zp V V<|nN<|λa63 w63 U6=>?_
  try simp only [Exit.then,Exit.inBlock,if_true]
  refine qj (fn:=Tryz.f123) V U6 ?_
  have hz:=(U6.sh.zY (L' := [_,_,_,_,_,_,_,_,_,_]) [2,3,4,5,6,7,8,9,10,11] V)
  refine ⟨V,⟨ze.v,ze.l.set ins.a.toNat (wrap64 ((nth ze.l ins.b.toNat)*(nth ze.l ins.c.toNat)))⟩,⟨words.v,words.l⟩,⟨owner.v,owner.l⟩,⟨zd.v,zd.l⟩,q,nth (M.qs q) n,(nth zl.l n).pc+1,zq,(qy _ _).symm,?_,?_⟩
  · refine zU ?_ (xO za).symm;show _=zJ M.m n (zo (nth code.l n).l (nth zl.l n).pc) _;rw [<-xv];(refine zU ?_ (Z8 zc).symm;rfl)
  · rw [Zz] at hz;exact hz
 refine sG (yK _ _ V<|oM 1 V<|.nl)<|gcd V (λzsf zqq=>?_) λzsf zqq=>?_
 ·skip
  have q9:=hR.o3 za
  intro a67 w67 AI
  refine ka 16 [] zb zb AI λ_ z68=>qQ AI.fr<|vu (oM 1 V<|qB qm V<|qw 0 zj V V<|oM 1 V<|qB qZ V<|qw 0 zj V V<|.nl)<|?_
  have zrb:ze.l.length<=140737488355328:=(AI.sh.own 5 V).len
  refine vu (vC zt zj (aO 5 V) zp V<|wx zj (aO 5 V) zp V<|oM 1 V<|qB gh V<|qw 0 zj V V<|vC zt zj (aO 5 V) zp V<|wx zj (aO 5 V) zp V<|fG _ _ V<|.nl)<|qP dG V (λw h=>(cw (decide (nth ze.l ins.b.toNat<nth ze.l ins.c.toNat)) _))<|vu (vC zt zj (aO 5 V) zp V<|.nl)<|qN z68<|XK 5 (bit (decide (nth ze.l ins.b.toNat<nth ze.l ins.c.toNat)):Int) zj zp V V<|nN<|λa71 w71 dU=>?_;clear AI
  try simp only [Exit.then,Exit.inBlock,if_true]
  refine qj (fn:=Tryz.f123) V dU ?_
  have hz:=(dU.sh.zY (L' := [_,_,_,_,_,_,_,_,_,_]) [2,3,4,5,6,7,8,9,10,11] V)
  refine ⟨V,⟨ze.v,ze.l.set ins.a.toNat (bit (decide (nth ze.l ins.b.toNat<nth ze.l ins.c.toNat)))⟩,⟨words.v,words.l⟩,⟨owner.v,owner.l⟩,⟨zd.v,zd.l⟩,q,nth (M.qs q) n,(nth zl.l n).pc+1,zq,(qy _ _).symm,?_,?_⟩
  · refine zU ?_ (xO za).symm;show _=zJ M.m n (zo (nth code.l n).l (nth zl.l n).pc) _;rw [<-xv];(refine zU ?_ (Z7 zc).symm;rfl)
  · rw [Zz] at hz;exact hz
 refine sG (yK _ _ V<|oM 1 V<|.nl)<|gcd V (λzsb zqm=>?_) λzsb zqm=>?_
 ·skip
  have q9:=hR.o3 za
  intro a75 w75 h75
  refine ka 16 [] zb zb h75 λ_ z76=>qQ h75.fr<|vu (oM 1 V<|qB qm V<|qw 0 zj V V<|oM 1 V<|qB qZ V<|qw 0 zj V V<|.nl)<|?_
  have zxj:ze.l.length<=140737488355328:=(h75.sh.own 5 V).len
  refine vu (vC zt zj (aO 5 V) zp V<|wx zj (aO 5 V) zp V<|oM 1 V<|qB gh V<|qw 0 zj V V<|vC zt zj (aO 5 V) zp V<|wx zj (aO 5 V) zp V<|yK _ _ V<|.nl)<|qP dG V (λw h=>(cw (decide (nth ze.l ins.b.toNat=nth ze.l ins.c.toNat)) _))<|vu (vC zt zj (aO 5 V) zp V<|.nl)<|qN z76<|XK 5 (bit (decide (nth ze.l ins.b.toNat=nth ze.l ins.c.toNat)):Int) zj zp V V<|nN<|λa79 w79 h79=>?_;clear h75
  try simp only [Exit.then,Exit.inBlock,if_true]
  refine qj (fn:=Tryz.f123) V h79 ?_
  have hz:=(h79.sh.zY (L' := [_,_,_,_,_,_,_,_,_,_]) [2,3,4,5,6,7,8,9,10,11] V)
  refine ⟨V,⟨ze.v,ze.l.set ins.a.toNat (bit (decide (nth ze.l ins.b.toNat=nth ze.l ins.c.toNat)))⟩,⟨words.v,words.l⟩,⟨owner.v,owner.l⟩,⟨zd.v,zd.l⟩,q,nth (M.qs q) n,(nth zl.l n).pc+1,zq,(qy _ _).symm,?_,?_⟩
  · refine zU ?_ (xO za).symm;show _=zJ M.m n (zo (nth code.l n).l (nth zl.l n).pc) _;rw [<-xv];(refine zU ?_ (Z6 zc).symm;rfl)
  · rw [Zz] at hz;exact hz
 refine sG (yK _ _ V<|oM 1 V<|.nl)<|gcd V (λzr8 zqi=>?_) λzr8 zqi=>?_
 ·skip
  refine gL<|zn (oM 1 V<|qB qm V<|qw 0 zj V V<|cz V<|QB Qq V<|.nl)<|XK 4 ({ nth tl n with pc:=ins.a } :jn) zj zp V V<|nN<|λa83 w83 h83=>?_
  try simp only [Exit.then,Exit.inBlock,if_true]
  refine qj (fn:=Tryz.f123) V h83 ?_
  have hz:=(h83.sh.zY (L' := [_,_,_,_,_,_,_,_,_,_]) [2,3,4,5,6,7,8,9,10,11] V)
  refine ⟨V,⟨ze.v,ze.l⟩,⟨words.v,words.l⟩,⟨owner.v,owner.l⟩,⟨zd.v,zd.l⟩,q,nth (M.qs q) n,ins.a,zq,(qy _ _).symm,?_,?_⟩
  · refine zU ?_ (xO za).symm;show _=zJ M.m n (zo (nth code.l n).l (nth zl.l n).pc) _;rw [<-xv];(refine zU ?_ (ko zc).symm;rfl)
  · rw [ru ht Zz] at hz;exact hz
 refine sG (yK _ _ V<|oM 1 V<|.nl)<|gcd V (λzr5 zqe=>?_) λzr5 zqe=>?_
 ·skip
  have q9:=hR.o15 za
  refine sK λ_ k86=>y4 (aO 5 V) λzxg=>zn (oM 1 V<|qB qm V<|qw 0 zj V V<|vC zt zj (aO 5 V) zp V<|wx zj (aO 5 V) zp V<|yK _ _ V<|.nl)<|nK k86<|gF [4,5,172] V<|gcd V (λzdp zcv=>?_) λzdp zcv=>?_
  ·skip
   refine gL<|zn (oM 1 V<|qB qZ V<|qw 0 zj V V<|cz V<|QB Qq V<|.nl)<|XK 4 ({ nth tl n with pc:=ins.b } :jn) zj zp V V<|nN<|λa90 w90 mc=>?_
   try simp only [Exit.then,Exit.inBlock,if_true]
   refine qj (fn:=Tryz.f123) V mc ?_
   have hz:=(mc.sh.zY (L' := [_,_,_,_,_,_,_,_,_,_]) [2,3,4,5,6,7,8,9,10,11] V)
   refine ⟨V,⟨ze.v,ze.l⟩,⟨words.v,words.l⟩,⟨owner.v,owner.l⟩,⟨zd.v,zd.l⟩,q,nth (M.qs q) n,ins.b,zq,(qy _ _).symm,?_,?_⟩
   · refine zU ?_ (xO za).symm;show _=zJ M.m n (zo (nth code.l n).l (nth zl.l n).pc) _;rw [<-xv];first|(refine zU ?_ (jQ zc zc).symm;rfl)|(refine zU ?_ (jR zc zc).symm;rfl)
   · rw [ru ht Zz] at hz;exact hz
  refine gS<|λa91 w91 h91=>?_
  try simp only [Exit.then,Exit.inBlock,if_true]
  refine qj (fn:=Tryz.f123) V h91 ?_
  have hz:=(h91.sh.zY (L' := [_,_,_,_,_,_,_,_,_,_]) [2,3,4,5,6,7,8,9,10,11] V)
  refine ⟨V,⟨ze.v,ze.l⟩,⟨words.v,words.l⟩,⟨owner.v,owner.l⟩,⟨zd.v,zd.l⟩,q,nth (M.qs q) n,(nth zl.l n).pc+1,zq,(qy _ _).symm,?_,?_⟩
  · refine zU ?_ (xO za).symm;show _=zJ M.m n (zo (nth code.l n).l (nth zl.l n).pc) _;rw [<-xv];first|(refine zU ?_ (jQ zc zc).symm;rfl)|(refine zU ?_ (jR zc zc).symm;rfl)
  · rw [Zz] at hz;exact hz
 refine sG (yK _ _ V<|oM 1 V<|.nl)<|gF [0,3,5,7,178] V<|gcd V (λzr4 zqb=>?_) λzr4 zqb=>?_
 ·skip
  have q9:=hR.o15 za
  refine y4 (aO 5 V) λzxd=>rC [12,13,16] V<|pR [0,1,2,3,4,5,6,7,8,9,10,11] V (oM 2 V<|yb 2 wA zV V V<|qB Vw V<|qw 1 zj V V<|oM 1 V<|qB qm V<|qw 0 zj V V<|vC zt zj (aO 5 V) zp V<|wx zj (aO 5 V) zp V<|.nl) V<|pX (λ_ _ h_=>qF (n:=2) (cs:= [.int .i64 ((n:Nat):Int),.int .i64 (nth ze.l ins.a.toNat)]) ([((n:Nat):Int),nth ze.l ins.a.toNat]:List Int) h_ zt zj V V V zf V zb V (λq hq w h=>Flat.inner _ _) (λq hq b hb=>(Flat.on _ _ hb).elim) V V) V λv95=>pR [0,1,2,3,4] V (oM 2 V<|yb 3 wA zV V V<|.nl) V<|pX (λ_ _ h_=>yu (r:=7) (rm:=0) (s:=zd) (m:=(⟨v95,[((n:Nat):Int),nth ze.l ins.a.toNat]⟩:Ls Int)) h_ zt zj V V V V V V V (λw h=>(h.own 0 V)) (λb hb=>qt (h_.sh.ok _ (zy (i:=0) V)) hb) (λq hq b hb=>⟨q,hq,hb⟩) V V V inferInstance (show (zd.l.length+([((n:Nat):Int),nth ze.l ins.a.toNat]).length)*8<=140737488355328/\zd.l.length+([((n:Nat):Int),nth ze.l ins.a.toNat]).length<=140737488355328 from zp) V V) V λv96=>pR [0,14,15] V (oM 1 V<|jA wA V<|.nl) V<|pS (λ_ _ h_=>j3 (i:=3) (vs:= [v96]) (YR:= [.iface M.T (.pointer (some M.u)),.pointer (some ⟨gp,0,none⟩),zl.v,v96,.bool zq]) h_ zV V V V V V (y7 ((h_.sh.own 7 V)).one) V (zr ((h_.sh.own 7 V)).one qx) (y5 V) V) V<|pE [] V (.nl) V<|λa98 w98 MR=>?_
  try simp only [Exit.then,Exit.inBlock,if_true]
  refine qj (fn:=Tryz.f123) V MR ?_
  have hz:=(MR.sh.zY (L' := [_,_,_,_,_,_,_,_,_,_]) [3,4,5,6,7,8,9,10,11,12] V)
  refine ⟨V,⟨ze.v,ze.l⟩,⟨words.v,words.l⟩,⟨owner.v,owner.l⟩,⟨v96,zd.l++([((n:Nat):Int),nth ze.l ins.a.toNat])⟩,q,nth (M.qs q) n,(nth zl.l n).pc+1,zq,(qy _ _).symm,?_,?_⟩
  · refine zU ?_ (xO za).symm;show _=zJ M.m n (zo (nth code.l n).l (nth zl.l n).pc) _;rw [<-xv];(refine zU ?_ (kZ zc).symm;rfl)
  · rw [Zz] at hz;exact hz
 refine gL<|zn (oM 1 V<|qB Vw V<|qw 1 zj V V<|kt 0 qG V V<|.nl)<|gO [2,3,4,5,6,7,8,9,10,11,0,1] V<|λzl9 zf1 dp=>?_
 have zin:=dp.sh.yT (Lp:= [_,_,_,_,_,_,_,_,_,_])
 refine zL (zD dp zeo V V V V V (zbc _ M g gp code (⟨zl.v,tl⟩:Ls jn) ze zd words owner q _ _ _ zq n ins _ hM zin (by show n<tl.length;omega) htn Ow l4 ZU nH Vs hR za GY)) (zg V _) ?_
 rintro a105 Ng ⟨_,⟨rfl,b9,RD,R6,Ud,zgk,zfI,Sf,sT,zcW,zcV,Fk⟩,TG⟩
 change Sh _ _ _ [.zM g 173 [.iface M.T (.pointer (some M.u)),.pointer (some ⟨gp,0,none⟩),zl.v,Ud.v,.bool sT],.zx gp 25 [code.v,pw,.int .i64 zm,.int .i64 z8],.own 189 (⟨zl.v,tl.set n ⟨Sf,b9.v⟩⟩:Ls jn),.own 3 b9,.own 3 Ud,.zM M.g0 182 [RD.v,R6.v],.own 3 RD,.own 3 R6,M.X zgk,.at_ code] at Fk
 have J4:St 196 K W a105 Ng _ [_,_,_,_,_,_,_,_,_,_,_,_]:=⟨TG,dp.sh.xP (Lp:= [_,_,_,_,_,_,_,_,_,_]) Fk (by intro A hA b hb;simp only [z6,qd,or_false] at hA;rcases hA with rfl|rfl|rfl|rfl|rfl|rfl|rfl|rfl|rfl|rfl<;>first|exact (hb:False).elim|exact Flat.qh hb|exact .inl ⟨_,xx ..,.inr hb⟩|exact Nx hM hb|exact .inl ⟨_,zy (i:=1) V,.inr hb⟩|exact .inl ⟨_,zy (i:=9) V,.inr hb⟩|exact .inl ⟨_,by simp,.inr hb⟩)⟩
 clear TG Fk
 clear dp
 refine gG J4<|nN<|λpA my YQ=>?_;clear J4
 try simp only [Exit.then,Exit.inBlock,if_true]
 refine qj (fn:=Tryz.f123) V YQ ?_
 have hz:=(YQ.sh.zY (L' := [_,_,_,_,_,_,_,_,_,_]) [0,1,2,3,4,5,6,7,8,9] V)
 refine ⟨V,b9,RD,R6,Ud,zgk,zfI,Sf,sT,zcW,?_,?_⟩
 · refine zU zcV ?_;refine zU ?_ (xO za).symm;show _=zJ M.m n (zo (nth code.l n).l (nth zl.l n).pc) _;rw [<-xv];show zJ M.m n ins ⟨(nth tl n).pc,_,_,_,_,_,_⟩=_;rw [Fy]
 · rw [Zz,List.set_set] at hz;exact hz
theorem ga {code:Ls (Ls Ins)}{words:Ls Int}{Lk R:Nat}(h:yJ (ya code words Lk R)):1<=code.l.length/\code.l.length<=4/\words.l.length<=64/\Lk<=4/\R<=200:=by
 have h1:=h.code
 have h2:=h.words
 have h3:=h.zm
 have h4:=h.ze
 simp only [ya,yH,yw] at h1 h2 h3 h4
 omega
theorem rN {code:Ls (Ls Ins)}{words:Ls Int}{Lk R:Nat}(h:yJ (ya code words Lk R)):∀t,t<code.l.length->(nth code.l t).l.length<=400:=λt ht=>by
 have h9:=h.len t (by rw [x8];exact ht)
 rwa [jj ht] at h9
theorem St.toR {N:Nat}{K:Nat->Prop}{W w:World}{a:Act}{F:List (Nat×Value)}{L:List zZ}(i:Nat){g:Nat}{E:TypeId}{cs:List Value}(h:St N K W a w F L)(hi:L[i]? =some (.zM g E cs)):St N K W a w F (L.set i (.zx g E cs)):=
 ⟨h.fr,h.sh.put hi (j2.refl _ _) (h.sh.zM i hi) (λb hb=>hb.elim) (λb hb=> .inl hb) (λb hb=>hb.elim)⟩
def NC (M:Qy)(g gp:Nat)(pc:List Value)(vt:Value)(rows:List q6)(zd words owner:Ls Int)(q:M.σ)(zq:Bool)(code:Ls (Ls Ins)):List zZ:=
 [.zM g 173 [.iface M.T (.pointer (some M.u)),.pointer (some ⟨gp,0,none⟩),vt,zd.v,.bool zq],.zx gp 25 pc,.own 189 (⟨vt,rows.map q6.toQ⟩:Ls jn),.x5 (kg 3 rows),.own 3 zd,.zM M.g0 182 [words.v,owner.v],.own 3 words,.own 3 owner,M.X q,.at_ code]
theorem C1 (K:Nat->Prop)(M:Qy)(g gp:Nat)(code:Ls (Ls Ins))(vt:Value)(rows:List q6)(zd words owner:Ls Int)(q:M.σ)(pw:Value)(zm z8:Int)(zq:Bool)(t k:Nat)(W:World)(hM:KA Tryz.prog 182 3 M)
  (hS:Sh K W W (NC M g gp [code.v,pw,.int .i64 zm,.int .i64 z8] vt rows zd words owner q zq code)) (hn:t<rows.length) (zlm:t<=1000) (l4:t<(M.qs q).length) (ZU:(nth (M.qs q) t).length<=3) (nH:∀x∈nth (M.qs q) t,x.lock=true->x.qk=0) (Vs:∀v∈owner.l,-1<=v) (SH:t<code.l.length)
  (zh1:0<=(nth rows t).pc/\(nth rows t).pc<=(nth code.l t).l.length) (zh2:(nth code.l t).l.length<=1000000) (B0:xp M.m (nth code.l t).l ⟨(nth rows t).pc,(nth rows t).ze.l,nth (M.qs q) t,words.l,owner.l,zd.l,zq⟩ k=true) (Rf:zd.l.length<=100000000)
  (Df:∀j,j<(nth (M.qs q) t).length->Ap (nth (nth (M.qs q) t) j) words owner) (Is:k=0->GV (nth rows t).ze.l.length words.l.length owner.l.length (zo (nth code.l t).l (nth rows t).pc)):
  zP Tryz.prog 123 [.pointer (some ⟨g,0,none⟩),.agg #[.int .i64 ((t:Nat):Int),.int .i64 (((k:Nat):Int)-1)]] W (λv w' =>v= .tuple #[]/\∃(Zb:List q6) (zB zA qT:Ls Int) (q' :M.σ) (vX:Bool) (x:q6) (y:TS),
   y=XY M.m t (nth code.l t).l k ⟨(nth rows t).pc,(nth rows t).ze.l,nth (M.qs q) t,words.l,owner.l,zd.l,zq⟩/\Zb=rows.set t x/\x.pc=y.pc/\x.ze.l=y.ze/\M.qs q' =(M.qs q).set t y.wait/\zB.l=y.words/\zA.l=y.owner/\qT.l=y.zd/\vX=y.zq/\
   Sh K W w' (NC M g gp [code.v,pw,.int .i64 zm,.int .i64 z8] vt Zb qT zB zA q' vX code)):=by
 have h1:Sh K W W (.x5 (kg 3 rows):: [.zM g 173 [.iface M.T (.pointer (some M.u)),.pointer (some ⟨gp,0,none⟩),vt,zd.v,.bool zq],.zx gp 25 [code.v,pw,.int .i64 zm,.int .i64 z8],.own 189 (⟨vt,rows.map q6.toQ⟩:Ls jn),.own 3 zd,.zM M.g0 182 [words.v,owner.v],.own 3 words,.own 3 owner,M.X q,.at_ code]):=
  hS.zY [3,0,1,2,4,5,6,7,8,9] V
 have h2:=h1.zgr t hn
 have h3:Sh K W W ([.zM g 173 [.iface M.T (.pointer (some M.u)),.pointer (some ⟨gp,0,none⟩),vt,zd.v,.bool zq],.zx gp 25 [code.v,pw,.int .i64 zm,.int .i64 z8],.own 189 (⟨vt,rows.map q6.toQ⟩:Ls jn),.own 3 (nth rows t).ze,.own 3 zd,.zM M.g0 182 [words.v,owner.v],.own 3 words,.own 3 owner,M.X q,.at_ code]++ [.x5 (kg 3 (rows.eraseIdx t))]):=
  h2.zY (L' := [.zM g 173 [.iface M.T (.pointer (some M.u)),.pointer (some ⟨gp,0,none⟩),vt,zd.v,.bool zq],.zx gp 25 [code.v,pw,.int .i64 zm,.int .i64 z8],.own 189 (⟨vt,rows.map q6.toQ⟩:Ls jn),.own 3 (nth rows t).ze,.own 3 zd,.zM M.g0 182 [words.v,owner.v],.own 3 words,.own 3 owner,M.X q,.at_ code,.x5 (kg 3 (rows.eraseIdx t))]) [2,3,4,0,5,6,7,8,9,10,1] V
 have BW:nth (rows.map q6.toQ) t=(nth rows t).toQ:=QD hn
 refine zP.mono (zgm _ M g gp code (⟨vt,rows.map q6.toQ⟩:Ls jn) (nth rows t).ze zd words owner q pw zm z8 zq t k W hM h3.yT (by simpa using hn) zlm (by rw [BW];rfl) l4 ZU nH Vs SH (by rw [BW];exact zh1) zh2 (by rw [BW];exact B0) Rf Df (by rw [BW];exact Is)) ?_
 rintro v w' ⟨rfl,vW,zB,zA,qT,q',wt,Bz,vX,hq,hy,hs⟩
 have h4:=h3.xP hs (by intro A hA b hb;simp only [z6,qd,or_false] at hA;rcases hA with rfl|rfl|rfl|rfl|rfl|rfl|rfl|rfl|rfl|rfl<;>first|exact (hb:False).elim|exact Flat.qh hb|exact Nx hM hb|exact .inl ⟨_,zy (i:=1) V,.inr hb⟩|exact .inl ⟨_,zy (i:=9) V,.inr hb⟩)
 have h5:=h4.zY (L' := .own 3 vW:: .x5 (kg 3 (rows.eraseIdx t)):: [.zM g 173 [.iface M.T (.pointer (some M.u)),.pointer (some ⟨gp,0,none⟩),vt,qT.v,.bool vX],.zx gp 25 [code.v,pw,.int .i64 zm,.int .i64 z8],.own 189 (⟨vt,(rows.map q6.toQ).set t ⟨Bz,vW.v⟩⟩:Ls jn),.own 3 qT,.zM M.g0 182 [zB.v,zA.v],.own 3 zB,.own 3 zA,M.X q',.at_ code]) [3,10,0,1,2,4,5,6,7,8,9] V
 have h6:=Sh.zd0 (x:=⟨Bz,vW⟩) t hn h5
 rw [show (rows.map q6.toQ).set t ⟨Bz,vW.v⟩=(rows.set t ⟨Bz,vW⟩).map q6.toQ by rw [List.map_set];rfl] at h6
 have h7:=h6.zY (L' :=NC M g gp [code.v,pw,.int .i64 zm,.int .i64 z8] vt (rows.set t ⟨Bz,vW⟩) qT zB zA q' vX code) [1,2,3,0,4,5,6,7,8,9] V
 rw [BW] at hy
 exact ⟨V,rows.set t ⟨Bz,vW⟩,zB,zA,qT,q',vX,⟨Bz,vW⟩,(⟨Bz,vW.l,wt,zB.l,zA.l,qT.l,vX⟩:TS),hy,V,V,V,hq,V,V,V,V,h7⟩
theorem C2 (M:Qy)(gp:Nat)(code:Ls (Ls Ins))(pw:Value)(Lk R:Nat)(W:World)(hP:xB W gp 25 #[code.v,pw,.int .i64 ((Lk:Nat):Int),.int .i64 ((R:Nat):Int)])(qY:code.At W)(qg:code.l.length<=4)(hR:R<=200):
    zP Tryz.prog 100 [.pointer (some ⟨gp,0,none⟩),.iface M.T (.pointer (some M.u))] W (λv w' =>∃(g:Nat) (rows:List q6) (vt:Value),v= .pointer (some ⟨g,0,none⟩)/\rows.map q6.th=List.replicate code.l.length ⟨0,List.replicate R 0,[]⟩/\qM W w' [.zM g 173 [.iface M.T (.pointer (some M.u)),.pointer (some ⟨gp,0,none⟩),vt,.slice none 0 0,.bool false],.own 189 (⟨vt,rows.map q6.toQ⟩:Ls jn),.x5 (kg 3 rows),.own 3 (⟨.slice none 0 0,[]⟩:Ls Int)]):=by
 refine gen Tryz.func100 Tryz.ntmps100 (qM.ext (by intro A hA;simp only [z6,qd,or_false] at hA;rcases hA with rfl|rfl;exact hP;exact qY) (by intro A hA b hb;simp only [z6,qd,or_false] at hA;rcases hA with rfl|rfl<;>exact hb):Sh (λ_=>False) W W [.zx gp 25 [code.v,pw,.int .i64 ((Lk:Nat):Int),.int .i64 ((R:Nat):Int)],.at_ code]) V λjP z7=>gG z7<|sG (oM 1 V<|.nl)<|sK λ_ j1=>zn (oM 2 V<|oV (q8 (cs:= [.iface M.T (.pointer (some M.u)),.pointer (some ⟨gp,0,none⟩),(.slice none 0 0),(.slice none 0 0),.bool false]) V V zb) V<|.nl)<|XV V V λgk=>zn (oM 1 V<|.nl)<|nK j1<|gK λ_ Xp=>sK λ_ Xe=>y4 (aA 2 V) λIm=>zn (oM 1 V<|jA jZ V<|w7 1 ZE V V<|wk vp (aA 2 V) V<|oM 1 V<|.nl)<|nK Xe<|gB<|λPS Na XU=>?_;clear z7
 have jc:=XU.nil (α:=jn) 189
 clear XU
 have wV:=jc.zaj 3
 clear jc
 refine qE (λm a w=>∃(i:Nat) (rows:List q6) (vt:Value),(i<=code.l.length)/\(rows.length=i)/\(rows.map q6.th=List.replicate i ⟨0,List.replicate R 0,[]⟩)/\St 34 (λ_=>False) W a w [(0,.pointer (some ⟨gp,0,none⟩)),(5,.pointer (some ⟨gk,0,none⟩)),(14,.int .i64 ((code.l.length:Nat):Int)),(15,.int .i64 ((i:Nat):Int))] [.zM gk 173 [.iface M.T (.pointer (some M.u)),.pointer (some ⟨gp,0,none⟩),vt,(.slice none 0 0),.bool false],.zx gp 25 [code.v,pw,.int .i64 ((Lk:Nat):Int),.int .i64 ((R:Nat):Int)],.at_ code,.own 189 (⟨vt,rows.map q6.toQ⟩:Ls jn),.x5 (kg 3 rows)]/\m=code.l.length-i) ⟨_,0,[],_,za,(V),(V),wV.wN ⟨V,V,V,V,trivial⟩ [2,3,4,1,0] V,V⟩ ?_
 clear wV
 rintro m17 a17 By ⟨i,rows,vt,hi,Wk,S3,jk,B1⟩
 refine gG jk<|sG (xk _ _ V<|.nl)<|gK λ_ J9=>gcd V (λUy Dq=>?_) λUy Dq=>?_;clear jk
 ·skip
  refine gS<|hK J9<|gK λ_ Ke=>gB<|rC [9,11,12,15] V<|pR [0,1,2,3,4,5,6,7,8] V (oM 2 V<|yb 0 xM wb V V<|oM 1 V<|jA du V<|w7 1 zj V V<|.nl) V<|pX (λ_ _ h_=>G4 (n:=R) (0:Int) h_ zt zj V V V V V (show 8*R<=140737488355328/\R<=140737488355328 from zp) (λw=>Flat.inner _ _) (λb=>Flat.on _ _) V V) V λv25=>pR [0,1,2,3,4,10] V (oM 2 V<|yb 1 xM wb V V<|oV (xW (cs:= [.int .i64 0,v25]) V V (λw h=>by obtain ⟨A26,n26,c26,(Pp:v25=_)⟩:=((h.own 0 V)).form;rw [Pp];kernel_rfl)) V<|.nl) V<|pX (λ_ _ h_=>qF (n:=1) (cs:= [.int .i64 0,v25]) ([(⟨0,v25⟩:jn)]:List jn) h_ wL kI V V V zf V zb V (λq hq w h=>Flat.inner _ _) (λq hq b hb=>(Flat.on _ _ hb).elim) V V) V λv27=>pR [0,1,2,3,4] V (oM 2 V<|yb 2 xM wb V V<|.nl) V<|pX (λ_ _ h_=>RC (r:=5) (rm:=0) (s:=(⟨vt,rows.map q6.toQ⟩:Ls jn)) (m:=(⟨v27,[(⟨0,v25⟩:jn)]⟩:Ls jn)) h_ wL kI V V V V V V V (λw h=>(h.own 0 V)) (λb hb=>qt (h_.sh.ok _ (zy (i:=0) V)) hb) (λq hq b hb=>⟨q,hq,hb⟩) V V V (λw h q hq j hj=>by obtain rfl:q=0:=(by simpa using hq);rcases j with _|_|j;exact V;exact ((h.own 1 V)).one;exact absurd hj (by show¬(j+2<2);omega)) (show ((rows.map q6.toQ).length+([(⟨0,v25⟩:jn)]).length)*32<=140737488355328/\(rows.map q6.toQ).length+([(⟨0,v25⟩:jn)]).length<=140737488355328 from zp) V V) V λv28=>pR [0,13,14] V (oM 1 V<|jA xM V<|.nl) V<|pS (λ_ _ h_=>j3 (i:=2) (vs:= [v28]) (YR:= [.iface M.T (.pointer (some M.u)),.pointer (some ⟨gp,0,none⟩),v28,(.slice none 0 0),.bool false]) h_ wb V V V V V (y7 ((h_.sh.own 5 V)).one) V (zr ((h_.sh.own 5 V)).one qx) (y5 V) V) V<|pE [] V (.nl) V<|hK Ke<|gL<|zn (yl _ 1 zp V<|oM 1 V<|.nl)<|nN<|gO [1,6,0,2,3,4,5] V<|λa32 MF JJ=>?_
  have ZW:=JJ.sJ (x:=(⟨0,(⟨v25,List.replicate R 0⟩:Ls Int)⟩:q6))
  clear JJ
  have Vb:=ZW.Jb (i:=5) (l' :=(rows++ [(⟨0,(⟨v25,List.replicate R 0⟩:Ls Int)⟩:q6)]).map q6.toQ) V (by simp [q6.toQ])
  clear ZW
  refine zH ⟨_,?_,(i+1),(rows++ [(⟨0,(⟨v25,List.replicate R 0⟩:Ls Int)⟩:q6)]),v28,?_,?_,?_,Vb.wN ⟨V,V,V,V,trivial⟩ [2,3,4,5,0] V,V⟩
  · rw [B1];first|omega|(simp only [qf];omega)
  · omega
  · simp [Wk]
  · rw [yi,S3,List.replicate_succ'];rfl
 refine gX<|hK Xp<|sG (oM 2 V<|.nl)<|gR<|λa35 ME Yz=>zu (fn:=Tryz.f100) (t:=4) V Yz V ?_
 have QJ:=Yz.nil (α:=Int) 3
 clear Yz
 refine ⟨gk,rows,vt,V,?_,(QJ.sh.zY [1,4,5,0] V)⟩
 rw [S3,show i=code.l.length from za]
def zZ.emp :zZ:=⟨λ_=>False,λ_=>False,λ_=>True,λ_ _ _ _=>trivial,λ_ _ _ h=>by rcases h with h|h<;>exact h.elim⟩
theorem Sh.emp {K:Nat->Prop}{W w:World}{L:List zZ}(h:Sh K W w L):Sh K W w (zZ.emp::L):=h.push (j2.refl _ _) trivial (λb hb=>hb.elim) (λb hb=>hb.elim) (λb hb=>hb.elim)
def Kc (g:Nat):Qy:=⟨Nat,λn=>List.replicate n [],λ_=>zZ.emp,123,⟨g,0,none⟩,g,0⟩
theorem Yo {n t:Nat}(h:t<(List.replicate n ([]:List Wt)).length):nth (List.replicate n ([]:List Wt)) t= []:=Z2 _ _ _ (by simpa using h)
theorem rZ {g n t:Nat}{x:Wt}{words owner zB zA:Ls Int}(h:t<(List.replicate n ([]:List Wt)).length)(e1:zB.l=if x.lock=true then words.l else words.l.set x.wh.toNat x.qk)(e2:zA.l=if x.lock=true then owner.l.set x.wh.toNat (-1) else owner.l):dK (Kc g) t x words owner n zB zA n:=by
 refine ⟨[],?_,λpc ze zd zq=>?_⟩
 ·show List.replicate n ([]:List Wt)=(List.replicate n []).set t []
  have:=qy (List.replicate n ([]:List Wt)) t
  rw [Yo h] at this
  exact this.symm
 ·show _=TS.store 0 ⟨pc,ze,nth (List.replicate n ([]:List Wt)) t,words.l,owner.l,zd,zq⟩ x
  rw [Yo h]
  unfold TS.store
  rw [if_neg zf,e1,e2]
  rfl
theorem N4 (g:Nat):KA Tryz.prog 182 3 (Kc g) where
 load w words owner q t wd h ht hl dQ:=⟨202,⟨g,0,none⟩,zb,zef,by
  rw [show nth ((Kc g).qs q) t= [] from Yo ht]
  exact fx g words owner _ wd 0 w h.zM h.wa h.oa dQ⟩
 waits w words owner q t h ht hl:=⟨207,⟨g,0,none⟩,zb,zed,by
  rw [show nth ((Kc g).qs q) t= [] from Yo ht]
  exact ub g words owner _ 0 0 w h.zM h.wa h.oa⟩
 Gx w words owner q t a h ht hl _:=⟨201,⟨g,0,none⟩,zb,zeg,by
  rw [show nth ((Kc g).qs q) t= [] from Yo ht]
  exact fy g words owner _ a 0 w h.zM h.wa h.oa⟩
 ready w words owner q t h ht hl:=⟨203,⟨g,0,none⟩,zb,zee,by
  rw [show nth ((Kc g).qs q) t= [] from Yo ht]
  exact zP.mono (uc g words owner _ 0 0 w h.zM h.wa h.oa) λv w' hv=>⟨⟨.slice none 0 0,[]⟩,hv.1,V,hv.2.nil 3⟩⟩
 base w words owner q h:=⟨197,⟨g,0,none⟩,zb,Ma,fA g words owner 0 0 0 w h.zM h.wa h.oa⟩
 store K W words owner q t wd qk hS ht hl dQ:=⟨204,⟨g,0,none⟩,zb,L8,by
  have h:Sh K W W ([.zM g 182 [words.v,owner.v],.own 3 words,.own 3 owner]++ [zZ.emp]):=hS
  refine zP.mono (aF _ g words owner _ wd qk W h.yT dQ) ?_
  rintro v w' ⟨rfl,hs⟩
  exact ⟨V,⟨words.v,words.l.set wd.toNat qk⟩,owner,q,rZ ht V V,h.xP hs (by intro A hA b hb;simp only [z6,qd,or_false] at hA;rcases hA with rfl|rfl|rfl<;>first|exact (hb:False).elim|exact Flat.qh hb)⟩⟩
 free K W words owner q t a hS ht hl ha:=⟨200,⟨g,0,none⟩,zb,L9,by
  have h:Sh K W W ([.zM g 182 [words.v,owner.v],.own 3 words,.own 3 owner]++ [zZ.emp]):=hS
  refine zP.mono (fz _ g words owner _ a 0 W h.yT ha) ?_
  rintro v w' ⟨rfl,hs⟩
  exact ⟨V,words,⟨owner.v,owner.l.set a.toNat (-1)⟩,q,rZ ht V V,h.xP hs (by intro A hA b hb;simp only [z6,qd,or_false] at hA;rcases hA with rfl|rfl|rfl<;>first|exact (hb:False).elim|exact Flat.qh hb)⟩⟩
 swap K W words owner q t wd qk hS dQ:=⟨205,⟨g,0,none⟩,zb,L7,by
  have h:Sh K W W ([.zM g 182 [words.v,owner.v],.own 3 words,.own 3 owner]++ [zZ.emp]):=hS
  refine zP.mono (fw _ g words owner _ wd qk W h.yT dQ) ?_
  rintro v w' ⟨rfl,hs⟩
  exact ⟨V,⟨words.v,words.l.set wd.toNat qk⟩,owner,q,⟨V,V,V⟩,h.xP hs (by intro A hA b hb;simp only [z6,qd,or_false] at hA;rcases hA with rfl|rfl|rfl<;>first|exact (hb:False).elim|exact Flat.qh hb)⟩⟩
 flush K W words owner q t k hS ht hl hk:=by
  exfalso
  rw [show nth ((Kc g).qs q) t= [] from Yo ht] at hk
  exact absurd hk (by simp)
 mh q b h:=h
theorem NH (words:Ls Int)(Lk n:Nat)(cv:Value)(z8:Int)(W:World)(yo:words.At W)(aV:words.l.length<=64)(gv:Lk<=4):
  zP Tryz.prog 81 [.agg #[cv,words.v,.int .i64 ((Lk:Nat):Int),.int .i64 z8]] W (λv w' =>∃(g:Nat) (zB zA:Ls Int),v= .pointer (some ⟨g,0,none⟩)/\zB.l=words.l/\zA.l=List.replicate Lk (-1)/\qM W w' [.zM g 182 [zB.v,zA.v],.own 3 zB,.own 3 zA,(Kc g).X n]):=by
 refine zP.mono (cu words Lk cv z8 W yo aV gv) ?_
 rintro v w' ⟨g,zB,zA,e,h1,h2,hs⟩
 exact ⟨g,zB,zA,e,h1,h2,hs.emp.zY (L' := [.zM g 182 [zB.v,zA.v],.own 3 zB,.own 3 zA,zZ.emp]) [1,2,3,0] V⟩
theorem zdP (x y:Wt)(w:World):(binOp .eql 266 (.agg #[.bool x.lock,.int .i64 x.wh,.int .i64 x.qk]) (.agg #[.bool y.lock,.int .i64 y.wh,.int .i64 y.qk])).run Tryz.prog w= .ok (.bool (decide (x=y))) w:=by
 obtain ⟨a,b,c⟩:=x
 obtain ⟨a',b',c'⟩:=y
 simp [binOp,Op.equal,Op.maxDepth,go_sem]
 by_cases h1:a=a' <;>by_cases h2:b=b' <;>by_cases h3:c=c' <;>simp [h1,h2,h3]
theorem Pm (p q:Operand)(x y:Wt)(w:World):(eqGuard .eql 266 p q (.agg #[.bool x.lock,.int .i64 x.wh,.int .i64 x.qk]) (.agg #[.bool y.lock,.int .i64 y.wh,.int .i64 y.qk])).run Tryz.prog w= .ok () w:=by
 simp [eqGuard]
 try kernel_rfl
theorem Sh.FU {K:Nat->Prop}{W w:World}{L:List zZ}{α:Type}[zz α]{R:Ls α->zZ}{E:TypeId}{v:Value}{M:List (Ls α)}{q:Nat}(h:Sh K W w L)(i:Nat)(hi:L[i]? =some (.x5 (XE R E v M q))):(⟨v,Yc M⟩:Ls RV).At w:=
 vE (E:=E) ((h.ok _ (zy hi)).1 _ (xx ..))
theorem FV {l:List Wt}{ad:Int}{n:Nat}(hn:n<l.length)(e:nth l n=⟨true,ad,0⟩):(l.any λx=>x.lock&&decide (x.wh=ad))=true:=
 List.any_eq_true.2 ⟨_,qb _ _ hn,by rw [e];simp⟩
theorem OE {l:List Wt}{ad:Int}(gv:∀x∈l,x.lock=true->x.qk=0)(h:∀i,i<l.length->nth l i≠⟨true,ad,0⟩):(l.any λx=>x.lock&&decide (x.wh=ad))=false:=by
 rw [List.any_eq_false]
 intro x hx hc
 obtain ⟨i,hi,rfl⟩:=List.mem_iff_getElem.1 hx
 simp only [qI,decide_eq_true_eq] at hc
 have h3:=gv _ hx hc.1
 refine h i hi ?_
 rw [qq _ _ hi]
 generalize l[i]=y at hc h3
 obtain ⟨a,b,c⟩:=y
 simp only at hc h3
 rw [hc.1,hc.2,h3]
theorem Nt {l:List Wt}{y:Wt}{n:Nat}(h:∀i,i<n->nth l i≠y)(h2:¬nth l n=y):∀i,i<n+1->nth l i≠y:=λi hi=>by
 rcases Nat.lt_or_eq_of_le (Nat.le_of_lt_succ hi) with h3|h3
 ·exact h i h3
 ·subst h3;exact h2
theorem Hc {α:Type}(l:List α)(k:Nat):l.eraseIdx k=l.take k++l.drop (k+1):=List.eraseIdx_eq_take_drop_succ l k
theorem lJ (x:Ls Wt)(W:World)(hx:x.At W)(hl:x.l.length<=100000):
    zP Tryz.prog 219 [x.v] W (λv w' =>∃s:Ls Wt,v=s.v/\qM W w' [.own 266 (⟨s.v,x.l⟩:Ls Wt)]):=by
 refine gen Tryz.func219 Tryz.ntmps219 (qM.ext1 hx:Sh (λ_=>False) W W [.at_ x]) V λjP z7=>gG z7<|sG (oM 1 V<|.nl)<|gK λ_ j1=>sG (oM 1 V<|oV (cj (s:=x) jz V V V (λw h=>(h.at 0 V))) V<|.nl)<|?_;clear z7
 refine Xl V (λZo=>?_) λZo=>?_
 ·skip
  refine sG (oM 1 V<|.nl)<|gR<|uT<|λBK Hy w9=>zu (fn:=Tryz.f219) (t:=2) V w9 V<|⟨⟨.slice none 0 0,[]⟩,V,?_⟩
  rw [R8 hx zc]
  exact (w9.sh.nil (α:=Wt) 266).zY (L' := [_]) [0] V
 refine gS<|hK j1<|sK λ_ Us=>xb (λ_ _ h_=>Xc (α:=Wt) h_ jz xZ V V V) V λNh=>zn (oM 1 V<|.nl)<|xb (λ_ _ h_=>yu (r:=0) (rm:=1) (s:=(⟨Nh,[]⟩:Ls Wt)) (m:=x) h_ jz xZ V V V V V V V (λw h=>(h.at 1 V)) (λb hb=> .inr hb) (λq hq b hb=> .inr ⟨q,hq,hb⟩) V V V inferInstance (show (([]).length+x.l.length)*24<=140737488355328/\([]).length+x.l.length<=140737488355328 from zp) V V) V λmB=>zn (oM 1 V<|.nl)<|nK Us<|gR<|λa20 mw wV=>zu (fn:=Tryz.f219) (t:=2) V wV V<|⟨⟨mB,[]⟩,V,?_⟩
 exact (wV.sh.zY [0] V)
theorem Ad (K:Nat->Prop)(x:Ls Wt)(i j:Nat)(W:World)(hS:Sh K W W [.own 266 x])(Tk:i<j/\j<=x.l.length):
    zP Tryz.prog 218 [x.v,.int .i64 ((i:Nat):Int),.int .i64 ((j:Nat):Int)] W (λv w' =>∃u:Ls Wt,v=u.v/\Sh K W w' [.own 266 (⟨u.v,x.l.take i++x.l.drop j⟩:Ls Wt)]):=by
 have hcx:=C4 (hS.ok _ (xx ..))
 have AD:(x.l.take i++x.l.drop j).length=x.l.length-(j-i):=by rw [yX,vU,v7];omega
 refine gen Tryz.func218 Tryz.ntmps218 hS V λjP z7=>gG z7<|sG (oM 1 V<|.nl)<|sK λ_ j1=>y4 (aO 0 V) λc7=>zn (oM 4 V<|wk jz (aO 0 V) V<|oV (zgh (s:=x) (lo:=i) (hi:=j) (mx:=x.l.length) jz xZ V V V V V (λw h=>(h.own 0 V)) (show i<=j/\j<=x.l.length/\x.l.length<=x.l.length from zp)) V<|.nl)<|nK j1<|gK λ_ Xp=>sG (oM 2 V<|KX _ _ V<|.nl)<|?_;clear z7
 refine gcd V (λdd Ds=>?_) λdd Ds=>?_
 ·skip
  exfalso
  omega
 refine gS<|hK Xp<|sG (oM 1 V<|wk jz (aO 0 V) V<|oM 1 V<|.nl)<|gK λ_ JH=>rT 6 [] (oM 2 V<|oV (CK (s:=x) (j:=i) jz xZ V V V (λw h=>(h.own 0 V)) (show i<=x.l.length from zp) (show 0<x.l.length from zp)) V<|oM 2 V<|oV (fj (s:=x) (k:=j) jz xZ V V V (λw h=>(h.own 0 V)) (show j<=x.l.length from zp)) V<|.nl)<|λa20 mw wV=>zL (zay (r:=0) (j:=i) (k:=j) (s:=x) wV jz xZ V V V V V V inferInstance (show i<=j/\j<=x.l.length/\0<x.l.length from za) V V) (zg V _) ?_
 rintro a21 Au ⟨v21,zx0,Wv⟩;clear wV
 refine gG Wv<|zn (oM 1 V<|.nl)<|nK JH<|sK λ_ J9=>zn (oM 2 V<|wk (n:=(x.l.take i++x.l.drop j).length) jz (aO 0 V) V<|oM 1 V<|oV (CJ (s:=(⟨v21,x.l.take i++x.l.drop j⟩:Ls Wt)) (lo:=(x.l.take i++x.l.drop j).length) (hi:=x.l.length) jz xZ V V V V (λw h=>(h.own 0 V)) (show (x.l.take i++x.l.drop j).length<=x.l.length/\x.l.length<=HA v21 from zp)) V<|.nl)<|gE (λ_ _ h_=>eu (r:=0) (hi:=x.l.length) (s:=(⟨v21,x.l.take i++x.l.drop j⟩:Ls Wt)) h_ jz xZ V V V V V V (show (x.l.take i++x.l.drop j).length<x.l.length/\x.l.length<=HA v21 from zp) V) V<|nK J9<|gF [0] V<|sG (oM 2 V<|.nl)<|gR<|λa25 tw Wu=>zu (fn:=Tryz.f218) (t:=6) V Wu V ?_;clear Wv
 exact ⟨⟨v21,[]⟩,V,Wu.sh⟩
theorem aq (g1 g0:Nat)(wait:Ls (Ls Wt))(t:Nat)(ad:Int)(W:World)(hB:xB W g1 185 #[.pointer (some ⟨g0,0,none⟩),wait.v])(hw:wait.At W)(ht:t<wait.l.length):
    zP Tryz.prog 216 [.pointer (some ⟨g1,0,none⟩),.int .i64 ((t:Nat):Int)] W (λv w' =>v= .int .i64 (((nth wait.l t).l.length:Nat):Int)/\qM W w' []):=by
 refine gen Tryz.func216 Tryz.ntmps216 (qM.ext (by intro A hA;simp only [z6,qd,or_false] at hA;rcases hA with rfl|rfl;exact hB;exact hw) (by intro A hA b hb;simp only [z6,qd,or_false] at hA;rcases hA with rfl|rfl<;>exact hb):Sh (λ_=>False) W W [.zx g1 185 [.pointer (some ⟨g0,0,none⟩),wait.v],.at_ wait]) V λjP z7=>gG z7<|sG (oM 1 V<|.nl)<|sK λ_ j1=>y4 (aA 1 V) λc7=>y4 (λw h=>((h.at 1 V).nth t (show t<wait.l.length from za))) λ(Dv:((nth wait.l t).l).length<=140737488355328)=>zn (oM 1 V<|jA yE V<|w7 0 jf V V<|oM 1 V<|jo j7 yM (aA 1 V) _ zp V<|Z1 ((nth wait.l t).v) yM (aA 1 V) zp V<|wk (n:=((nth wait.l t).l).length) jz (λw h=>((h.at 1 V).nth t (show t<wait.l.length from za))) V<|oM 1 V<|.nl)<|nK j1<|gR<|λHT Hz xr=>zu (fn:=Tryz.f216) (t:=4) V xr V ?_;clear z7
 exact ⟨V,(xr.sh.zY [] V)⟩
theorem tF (g1 g0:Nat)(wait:Ls (Ls Wt))(t:Nat)(ad:Int)(W:World)(hB:xB W g1 185 #[.pointer (some ⟨g0,0,none⟩),wait.v])(hw:wait.At W)(ht:t<wait.l.length):
    zP Tryz.prog 213 [.pointer (some ⟨g1,0,none⟩),.int .i64 ((t:Nat):Int)] W (λv w' =>∃s:Ls Int,v=s.v/\s.l=(if (nth wait.l t).l.length=0 then [] else [0])/\qM W w' [.own 3 s]):=by
 refine gen Tryz.func213 Tryz.ntmps213 (qM.ext (by intro A hA;simp only [z6,qd,or_false] at hA;rcases hA with rfl|rfl;exact hB;exact hw) (by intro A hA b hb;simp only [z6,qd,or_false] at hA;rcases hA with rfl|rfl<;>exact hb):Sh (λ_=>False) W W [.zx g1 185 [.pointer (some ⟨g0,0,none⟩),wait.v],.at_ wait]) V λjP z7=>gG z7<|sG (oM 1 V<|.nl)<|gK λ_ j1=>sK λ_ gu=>y4 (aA 1 V) λDv=>y4 (λw h=>((h.at 1 V).nth t (show t<wait.l.length from za))) λ(B3:((nth wait.l t).l).length<=140737488355328)=>zn (oM 1 V<|jA yE V<|w7 0 jf V V<|oM 1 V<|jo j7 yM (aA 1 V) _ zp V<|Z1 ((nth wait.l t).v) yM (aA 1 V) zp V<|wk (n:=((nth wait.l t).l).length) jz (λw h=>((h.at 1 V).nth t (show t<wait.l.length from za))) V<|KX _ 0 V<|.nl)<|nK gu<|?_;clear z7
 refine gcd V (λdd Ds=>?_) λdd Ds=>?_
 ·skip
  refine sG (oM 1 V<|.nl)<|gR<|uT<|λHS Hx jc=>zu (fn:=Tryz.f213) (t:=4) V jc V ?_
  exact ⟨⟨.slice none 0 0,[]⟩,V,by rw [if_pos zc],(jc.sh.nil (α:=Int) 3).zY (L' := [_]) [0] V⟩
 refine gS<|hK j1<|sK λ_ Va=>xb (λ_ _ h_=>qF (n:=1) (cs:= [.int .i64 0]) ([0]:List Int) h_ zt zj V V V zf V zb V (λq hq w h=>Flat.inner _ _) (λq hq b hb=>(Flat.on _ _ hb).elim) V V) V λv20=>zn (oM 1 V<|.nl)<|nK Va<|gR<|λa21 Au Wv=>zu (fn:=Tryz.f213) (t:=4) V Wv V ?_
 exact ⟨⟨v20,[0]⟩,V,by rw [if_neg zc],(Wv.sh.zY [0] V)⟩
theorem eR (g1 g0:Nat)(wait:Ls (Ls Wt))(t:Nat)(ad:Int)(W:World)(hB:xB W g1 185 #[.pointer (some ⟨g0,0,none⟩),wait.v])(hw:wait.At W)(ht:t<wait.l.length)(gv:∀x∈(nth wait.l t).l,x.lock=true->x.qk=0):
    zP Tryz.prog 211 [.pointer (some ⟨g1,0,none⟩),.int .i64 ((t:Nat):Int),.int .i64 ad] W (λv w' =>v= .bool ((nth wait.l t).l.any λx=>x.lock&&decide (x.wh=ad))/\qM W w' []):=by
 refine gen Tryz.func211 Tryz.ntmps211 (qM.ext (by intro A hA;simp only [z6,qd,or_false] at hA;rcases hA with rfl|rfl;exact hB;exact hw) (by intro A hA b hb;simp only [z6,qd,or_false] at hA;rcases hA with rfl|rfl<;>exact hb):Sh (λ_=>False) W W [.zx g1 185 [.pointer (some ⟨g0,0,none⟩),wait.v],.at_ wait]) V λjP z7=>gG z7<|sG (oM 1 V<|.nl)<|gK λ_ j1=>sK λ_ gu=>y4 (aA 1 V) λDv=>y4 (λw h=>((h.at 1 V).nth t (show t<wait.l.length from za))) λ(B3:((nth wait.l t).l).length<=140737488355328)=>zn (oM 1 V<|jA yE V<|w7 0 jf V V<|oM 1 V<|jo j7 yM (aA 1 V) _ zp V<|Z1 ((nth wait.l t).v) yM (aA 1 V) zp V<|wk (n:=((nth wait.l t).l).length) jz (λw h=>((h.at 1 V).nth t (show t<wait.l.length from za))) V<|oM 1 V<|.nl)<|nK gu<|gB<|λa17 By jk=>qE (λm a w=>∃(n:Nat),(n<=(nth wait.l t).l.length)/\(∀i,i<n->nth (nth wait.l t).l i≠⟨true,ad,0⟩)/\St 26 (λ_=>False) W a w [(2,.int .i64 ad),(15,(nth wait.l t).v),(16,.int .i64 ((((nth wait.l t).l).length:Nat):Int)),(17,.int .i64 ((n:Nat):Int))] [.zx g1 185 [.pointer (some ⟨g0,0,none⟩),wait.v],.at_ wait]/\m=(nth wait.l t).l.length-n) ⟨_,0,za,(λi hi=>absurd hi za),jk.nf ⟨V,V,V,V,trivial⟩,V⟩ ?_;clear z7
 clear jk
 rintro m16 BK Hy ⟨n,hn,Xq,w9,HM⟩
 refine gG w9<|sG (xk _ _ V<|.nl)<|gK λ_ Va=>gcd V (λwQ Ki=>?_) λwQ Ki=>?_;clear w9
 ·skip
  refine gS<|hK Va<|gK λ_ cH=>gB<|sK λ_ J9=>zn (jo jz xZ (λw h=>((h.at 1 V).nth t (show t<wait.l.length from za))) _ zp V<|Xz [.bool ((nth ((nth wait.l t).l) n).lock),.int .i64 ((nth ((nth wait.l t).l) n).wh),.int .i64 ((nth ((nth wait.l t).l) n).qk)] xZ (λw h=>((h.at 1 V).nth t (show t<wait.l.length from za))) zp V<|.nl)<|Q2 xZ V λb23=>YK 0 xZ V V V<|nK J9<|sG (kt 0 xZ V V<|oM 1 V<|oV (q8 (cs:= [.bool true,.int .i64 ad,.int .i64 0]) V V zb) V<|oV (zgi V V V (λw=>Pm _ _ (⟨(nth ((nth wait.l t).l) n).lock,(nth ((nth wait.l t).l) n).wh,(nth ((nth wait.l t).l) n).qk⟩:Wt) (⟨true,ad,0⟩:Wt) w) (λw=>zdP (⟨(nth ((nth wait.l t).l) n).lock,(nth ((nth wait.l t).l) n).wh,(nth ((nth wait.l t).l) n).qk⟩:Wt) (⟨true,ad,0⟩:Wt) w)) V<|.nl)<|gcd V (λI1 FI=>?_) λI1 FI=>?_
  ·skip
   refine sG (oM 1 V<|.nl)<|gR<|uB<|uT<|uT<|uB<|uT<|λa28 w28 U8=>zu (fn:=Tryz.f211) (t:=6) V U8 V ?_
   exact ⟨by rw [FV (show n<(nth wait.l t).l.length from za) zc],(U8.sh.zY [] V)⟩
  refine gS<|hK cH<|gL<|zn (yl _ 1 zp V<|oM 1 V<|.nl)<|nN<|λmg lW w8=>zH ⟨_,?_,n+1,?_,?_,w8.wN ⟨V,V,V,V,trivial⟩ [1,2] V,V⟩
  · rw [HM];first|omega|(simp only [qf];omega)
  · omega
  · exact Nt Xq zc
 refine gX<|hK j1<|sG (oM 1 V<|.nl)<|gR<|λa31 dM ZW=>zu (fn:=Tryz.f211) (t:=6) V ZW V ?_
 exact ⟨by rw [OE gv λi hi=>Xq i za],(ZW.sh.zY [] V)⟩
theorem tE (K:Nat->Prop)(g1 g0:Nat)(v9:Value)(M:List (Ls Wt))(t:Nat)(ad wd:Int)(W:World)(hS:Sh K W W [.zM g1 185 [.pointer (some ⟨g0,0,none⟩),v9],.x5 (jU (.own 266) 267 v9 M)])(ht:t<M.length)(hl:(nth M t).l.length<=100):
    zP Tryz.prog 214 [.pointer (some ⟨g1,0,none⟩),.int .i64 ((t:Nat):Int),.int .i64 ad,.int .i64 wd] W (λv w' =>v= .tuple #[]/\∃u:Ls Wt,u.l=(nth M t).l++ [⟨false,ad,wd⟩]/\Sh K W w' [.zM g1 185 [.pointer (some ⟨g0,0,none⟩),v9],.x5 (jU (.own 266) 267 v9 (M.set t u))]):=by
 refine gen Tryz.func214 Tryz.ntmps214 hS V λjP z7=>gG z7<|rC [15,16,18] V<|pR [0,1,2,3,4,5,6,7,8,9,10,11,12,13,14] V (oM 1 V<|yb 0 yE jf V V<|oM 2 V<|yb 0 yE jf V V<|oM 1 V<|jo j7 yM (λw h=>(h.QL 1 V)) _ (by rw [xG];exact (show t<M.length from za)) V<|oV (Rn.same (x6 (s:=(⟨v9,Yc M⟩:Ls RV)) (i:=t) (v:=(nth (Yc M) t).v) yM V V V (λw h=>h.QL 1 V) (by rw [xG];exact (show t<M.length from zp)) (y5 V) V) (VW M t)) V<|oM 2 V<|oV (q8 (cs:= [.bool false,.int .i64 ad,.int .i64 wd]) V V zb) V<|.nl) V<|pX (λ_ _ h_=>qF (n:=1) (cs:= [.bool false,.int .i64 ad,.int .i64 wd]) ([(⟨false,ad,wd⟩:Wt)]:List Wt) h_ jz xZ V V V zf V zb V (λq hq w h=>Flat.inner _ _) (λq hq b hb=>(Flat.on _ _ hb).elim) V V) V λv11=>pR [0,1,2,3,4,5,6,7,8,9,10,11] V (oM 1 V<|yb 1 yE jf V V<|oM 2 V<|yb 1 yE jf V V<|oM 1 V<|jo j7 yM (λw h=>(h.QL 2 V)) _ (by rw [xG];exact (show t<M.length from za)) V<|oV (Rn.same (x6 (s:=(⟨v9,Yc M⟩:Ls RV)) (i:=t) (v:=(nth (Yc M) t).v) yM V V V (λw h=>h.QL 2 V) (by rw [xG];exact (show t<M.length from zp)) (y5 V) V) (VW M t)) V<|.nl) V<|pX (λ_ _ h_=>ey (i:=t) (r:=2) (rm:=0) (m:=(⟨v11,[(⟨false,ad,wd⟩:Wt)]⟩:Ls Wt)) h_ jz xZ V V V V (show t<M.length from zp) V V V (λw h=>(h.own 0 V)) (λb hb=>qt (h_.sh.ok _ (zy (i:=0) V)) hb) V V V inferInstance (show (((nth M t).l).length+([(⟨false,ad,wd⟩:Wt)]).length)*24<=140737488355328/\((nth M t).l).length+([(⟨false,ad,wd⟩:Wt)]).length<=140737488355328 from zp) V V) V λv12=>pR [0,1,2,3,4,17] V (oM 1 V<|yb 2 yE jf V V<|oM 1 V<|jo j7 yM (λw h=>(h.FU 3 V)) _ (by rw [xG];exact (show t<M.length from za)) V<|.nl) V<|pS (λ_ _ h_=>ej (i:=t) (r:=2) (s:=(⟨v12,(nth M t).l++([(⟨false,ad,wd⟩:Wt)])⟩:Ls Wt)) h_ yM V V V V V (show t<M.length from zp) (h_.sh.own 0 V)) V<|pE [] V (.nl) V<|λee BN xd=>?_;clear z7
 try simp only [Exit.then,Exit.inBlock,if_true]
 refine qj (fn:=Tryz.f214) V xd ?_
 exact ⟨V,(⟨v12,(nth M t).l++([(⟨false,ad,wd⟩:Wt)])⟩:Ls Wt),V,(xd.sh.zY [1,2] V)⟩
theorem Cn (K:Nat->Prop)(g1 g0:Nat)(v9:Value)(M:List (Ls Wt))(t:Nat)(ad wd:Int)(W:World)(hS:Sh K W W [.zM g1 185 [.pointer (some ⟨g0,0,none⟩),v9],.x5 (jU (.own 266) 267 v9 M)])(ht:t<M.length)(hl:(nth M t).l.length<=100):
    zP Tryz.prog 210 [.pointer (some ⟨g1,0,none⟩),.int .i64 ((t:Nat):Int),.int .i64 ad] W (λv w' =>v= .tuple #[]/\∃u:Ls Wt,u.l=(nth M t).l++ [⟨true,ad,0⟩]/\Sh K W w' [.zM g1 185 [.pointer (some ⟨g0,0,none⟩),v9],.x5 (jU (.own 266) 267 v9 (M.set t u))]):=by
 refine gen Tryz.func210 Tryz.ntmps210 hS V λjP z7=>gG z7<|rC [14,15,17] V<|pR [0,1,2,3,4,5,6,7,8,9,10,11,12,13] V (oM 1 V<|yb 0 yE jf V V<|oM 2 V<|yb 0 yE jf V V<|oM 1 V<|jo j7 yM (λw h=>(h.QL 1 V)) _ (by rw [xG];exact (show t<M.length from za)) V<|oV (Rn.same (x6 (s:=(⟨v9,Yc M⟩:Ls RV)) (i:=t) (v:=(nth (Yc M) t).v) yM V V V (λw h=>h.QL 1 V) (by rw [xG];exact (show t<M.length from zp)) (y5 V) V) (VW M t)) V<|oM 1 V<|oV (q8 (cs:= [.bool true,.int .i64 ad,.int .i64 0]) V V zb) V<|.nl) V<|pX (λ_ _ h_=>qF (n:=1) (cs:= [.bool true,.int .i64 ad,.int .i64 0]) ([(⟨true,ad,0⟩:Wt)]:List Wt) h_ jz xZ V V V zf V zb V (λq hq w h=>Flat.inner _ _) (λq hq b hb=>(Flat.on _ _ hb).elim) V V) V λv11=>pR [0,1,2,3,4,5,6,7,8,9,10,11] V (oM 1 V<|yb 1 yE jf V V<|oM 2 V<|yb 1 yE jf V V<|oM 1 V<|jo j7 yM (λw h=>(h.QL 2 V)) _ (by rw [xG];exact (show t<M.length from za)) V<|oV (Rn.same (x6 (s:=(⟨v9,Yc M⟩:Ls RV)) (i:=t) (v:=(nth (Yc M) t).v) yM V V V (λw h=>h.QL 2 V) (by rw [xG];exact (show t<M.length from zp)) (y5 V) V) (VW M t)) V<|.nl) V<|pX (λ_ _ h_=>ey (i:=t) (r:=2) (rm:=0) (m:=(⟨v11,[(⟨true,ad,0⟩:Wt)]⟩:Ls Wt)) h_ jz xZ V V V V (show t<M.length from zp) V V V (λw h=>(h.own 0 V)) (λb hb=>qt (h_.sh.ok _ (zy (i:=0) V)) hb) V V V inferInstance (show (((nth M t).l).length+([(⟨true,ad,0⟩:Wt)]).length)*24<=140737488355328/\((nth M t).l).length+([(⟨true,ad,0⟩:Wt)]).length<=140737488355328 from zp) V V) V λv12=>pR [0,1,2,3,4,16] V (oM 1 V<|yb 2 yE jf V V<|oM 1 V<|jo j7 yM (λw h=>(h.FU 3 V)) _ (by rw [xG];exact (show t<M.length from za)) V<|.nl) V<|pS (λ_ _ h_=>ej (i:=t) (r:=2) (s:=(⟨v12,(nth M t).l++([(⟨true,ad,0⟩:Wt)])⟩:Ls Wt)) h_ yM V V V V V (show t<M.length from zp) (h_.sh.own 0 V)) V<|pE [] V (.nl) V<|λee BN xd=>?_;clear z7
 try simp only [Exit.then,Exit.inBlock,if_true]
 refine qj (fn:=Tryz.f210) V xd ?_
 exact ⟨V,(⟨v12,(nth M t).l++([(⟨true,ad,0⟩:Wt)])⟩:Ls Wt),V,(xd.sh.zY [1,2] V)⟩
theorem tG (K:Nat->Prop)(g1 g0:Nat)(v9:Value)(M:List (Ls Wt))(words owner:Ls Int)(t k:Nat)(W:World)(hS:Sh K W W [.zM g1 185 [.pointer (some ⟨g0,0,none⟩),v9],.x5 (jU (.own 266) 267 v9 M),.zM g0 182 [words.v,owner.v],.own 3 words,.own 3 owner])(ht:t<M.length)(hl:(nth M t).l.length<=100)(hk:k<(nth M t).l.length)(hx:Ap (nth (nth M t).l k) words owner):
    zP Tryz.prog 209 [.pointer (some ⟨g1,0,none⟩),.int .i64 ((t:Nat):Int),.int .i64 ((k:Nat):Int)] W (λv w' =>v= .tuple #[]/\∃u:Ls Wt,u.l=(nth M t).l.eraseIdx k/\Sh K W w' [.zM g1 185 [.pointer (some ⟨g0,0,none⟩),v9],.x5 (jU (.own 266) 267 v9 (M.set t u)),.zM g0 182 [words.v,owner.v],.own 3 (⟨words.v,if (nth (nth M t).l k).lock=true then words.l else words.l.set (nth (nth M t).l k).wh.toNat (nth (nth M t).l k).qk⟩:Ls Int),.own 3 (⟨owner.v,if (nth (nth M t).l k).lock=true then owner.l.set (nth (nth M t).l k).wh.toNat (-1) else owner.l⟩:Ls Int)]):=by
 refine gen Tryz.func209 Tryz.ntmps209 hS V λjP z7=>gG z7<|sK λ_ kz=>y4 (λw h=>(h.cG 1 V t (show t<M.length from za))) λ(zxA:((nth M t).l).length<=140737488355328)=>zn (oM 1 V<|yb 0 yE jf V V<|oM 1 V<|jo j7 yM (λw h=>(h.QL 1 V)) _ (by rw [xG];exact (show t<M.length from za)) V<|oV (Rn.same (x6 (s:=(⟨v9,Yc M⟩:Ls RV)) (i:=t) (v:=(nth (Yc M) t).v) yM V V V (λw h=>h.QL 1 V) (by rw [xG];exact (show t<M.length from zp)) (y5 V) V) (VW M t)) V<|oM 1 V<|jo jz xZ (λw h=>(h.cG 1 V t (show t<M.length from za))) _ zp V<|Xz [.bool ((nth ((nth M t).l) k).lock),.int .i64 ((nth ((nth M t).l) k).wh),.int .i64 ((nth ((nth M t).l) k).qk)] xZ (λw h=>(h.cG 1 V t (show t<M.length from za))) zp V<|.nl)<|Q2 xZ V λgk=>YK 0 xZ V V V<|nK kz<|gK λ_ Xe=>gF [0,1,2,6,7,8,9,10,11,12,13,14,15,16] V<|λPS Na XU=>Wz ((λΦ Ψ S a w=>(S 12=false/\S 16=false/\S 18=false/\kH 55 S Φ Ψ a/\Sh K W w [.zM gk 266 [.bool ((nth ((nth M t).l) k).lock),.int .i64 ((nth ((nth M t).l) k).wh),.int .i64 ((nth ((nth M t).l) k).qk)],.zM g1 185 [.pointer (some ⟨g0,0,none⟩),v9],.x5 (jU (.own 266) 267 v9 M),.zM g0 182 [words.v,owner.v],.own 3 words,.own 3 owner])\/(S 12=true/\S 16=false/\S 18=false/\∃(xh:Ls Wt),kH 55 S Φ (Ψ++ [(12,29,xh.v)]) a/\Sh K W w [.own 266 (⟨xh.v,(nth M t).l⟩:Ls Wt),.zM gk 266 [.bool ((nth ((nth M t).l) k).lock),.int .i64 ((nth ((nth M t).l) k).wh),.int .i64 ((nth ((nth M t).l) k).qk)],.zM g1 185 [.pointer (some ⟨g0,0,none⟩),v9],.x5 (jU (.own 266) 267 v9 M),.zM g0 182 [words.v,owner.v],.own 3 words,.own 3 owner])\/(S 12=true/\S 16=true/\S 18=false/\∃(xh:Ls Wt) (wT:Ls Wt),kH 55 S Φ (Ψ++ [(12,29,xh.v),(16,33,wT.v),(17,34,.pointer (some (ja v9 1 t 0)))]) a/\Sh K W w [.own 266 (⟨wT.v,((nth M t).l).take k++((nth M t).l).drop (k+1)⟩:Ls Wt),.zM gk 266 [.bool ((nth ((nth M t).l) k).lock),.int .i64 ((nth ((nth M t).l) k).wh),.int .i64 ((nth ((nth M t).l) k).qk)],.zM g1 185 [.pointer (some ⟨g0,0,none⟩),v9],.x5 (jU (.own 266) 267 v9 M),.zM g0 182 [words.v,owner.v],.own 3 words,.own 3 owner])\/(S 12=true/\S 16=true/\S 18=true/\∃(xh:Ls Wt) (wT:Ls Wt),kH 55 S Φ (Ψ++ [(12,29,xh.v),(16,33,wT.v),(17,34,.pointer (some (ja v9 1 t 0)))]) a/\Sh K W w [.x5 (jU (.own 266) 267 v9 (M.set t (⟨wT.v,((nth M t).l).take k++((nth M t).l).drop (k+1)⟩:Ls Wt))),.zM gk 266 [.bool ((nth ((nth M t).l) k).lock),.int .i64 ((nth ((nth M t).l) k).wh),.int .i64 ((nth ((nth M t).l) k).qk)],.zM g1 185 [.pointer (some ⟨g0,0,none⟩),v9],.zM g0 182 [words.v,owner.v],.own 3 words,.own 3 owner])) [(0,.pointer (some ⟨g1,0,none⟩)),(1,.int .i64 ((t:Nat):Int)),(2,.int .i64 ((k:Nat):Int)),(6,.pointer (some ⟨gk,0,none⟩)),(7,.pointer (some ⟨g1,0,none⟩)),(8,.pointer (some ⟨g1,0,none⟩)),(9,.pointer (some ⟨g1,1,none⟩)),(10,v9),(11,.int .i64 ((t:Nat):Int)),(12,.pointer (some (ja v9 1 t 0))),(13,(nth M t).v),(14,.int .i64 ((k:Nat):Int)),(15,.pointer (some (ja ((nth M t).v) 3 k 0))),(16,.agg #[.bool ((nth ((nth M t).l) k).lock),.int .i64 ((nth ((nth M t).l) k).wh),.int .i64 ((nth ((nth M t).l) k).qk)])] [(0,17,.pointer (some ⟨g1,0,none⟩)),(1,18,.pointer (some ⟨g1,0,none⟩)),(2,19,.pointer (some ⟨g1,1,none⟩)),(3,20,v9),(4,21,.int .i64 ((t:Nat):Int)),(5,22,.pointer (some ⟨g1,0,none⟩)),(6,23,.pointer (some ⟨g1,0,none⟩)),(7,24,.pointer (some ⟨g1,1,none⟩)),(8,25,v9),(9,26,.int .i64 ((t:Nat):Int)),(10,27,.pointer (some (ja v9 1 t 0))),(11,28,(nth M t).v),(13,30,.int .i64 ((k:Nat):Int)),(14,31,.int .i64 ((k:Nat):Int)),(15,32,.int .i64 ((k+1:Nat):Int))]) zb zb (Or.inl (⟨V,V,V,kH.start XU.fr,XU.sh.drew⟩)) ?_ ?_;clear z7
 ·intro S i o ho qn qg zX a w hI
  clear XU
  rcases i with _|_|_|_|_|_|_|_|_|_|_|_|_|_|_|_|_|_|_|i
  ·obtain rfl:_=o:=qA ho
   rcases hI with ⟨zQ,yk,yx,φ,ς⟩|⟨zQ,yk,yx,xh,φ,ς⟩|⟨zQ,yk,yx,xh,wT,φ,ς⟩|⟨_,_,yx,_⟩
   ·exact sq φ φ.yv ς (zG V V) 0 V V V V V V λa hg=>Or.inl (⟨un V zQ,un V yk,un V yx,hg,ς⟩)
   ·exact sq φ φ.yv ς (zG V V) 0 V V V V V V λa hg=>Or.inr (Or.inl (⟨un V zQ,un V yk,un V yx,xh,hg,ς⟩))
   ·exact sq φ φ.yv ς (zG V V) 0 V V V V V V λa hg=>Or.inr (Or.inr (Or.inl (⟨un V zQ,un V yk,un V yx,xh,wT,hg,ς⟩)))
   ·exact zh (cA qg 18 0 V yx) qn
  ·obtain rfl:_=o:=qA ho
   have BE:S 0=true:=zK zX 0 V V
   rcases hI with ⟨zQ,yk,yx,φ,ς⟩|⟨zQ,yk,yx,xh,φ,ς⟩|⟨zQ,yk,yx,xh,wT,φ,ς⟩|⟨_,_,yx,_⟩
   ·exact sq φ (Fr.cons φ.yv (φ.at_ 0 0 17 _ V BE)) ς (jC V V) 1 V V V V V V λa hg=>Or.inl (⟨un V zQ,un V yk,un V yx,hg,ς⟩)
   ·exact sq φ (Fr.cons φ.yv (φ.at_ 0 0 17 _ V BE)) ς (jC V V) 1 V V V V V V λa hg=>Or.inr (Or.inl (⟨un V zQ,un V yk,un V yx,xh,hg,ς⟩))
   ·exact sq φ (Fr.cons φ.yv (φ.at_ 0 0 17 _ V BE)) ς (jC V V) 1 V V V V V V λa hg=>Or.inr (Or.inr (Or.inl (⟨un V zQ,un V yk,un V yx,xh,wT,hg,ς⟩)))
   ·exact zh (cA qg 18 1 V yx) qn
  ·obtain rfl:_=o:=qA ho
   have Wo:S 1=true:=zK zX 0 V V
   rcases hI with ⟨zQ,yk,yx,φ,ς⟩|⟨zQ,yk,yx,xh,φ,ς⟩|⟨zQ,yk,yx,xh,wT,φ,ς⟩|⟨_,_,yx,_⟩
   ·exact sq φ (Fr.cons φ.yv (φ.at_ 1 1 18 _ V Wo)) ς (zT (r:=1) yE V V V) 2 V V V V V V λa hg=>Or.inl (⟨un V zQ,un V yk,un V yx,hg,ς⟩)
   ·exact sq φ (Fr.cons φ.yv (φ.at_ 1 1 18 _ V Wo)) ς (zT (r:=1) yE V V V) 2 V V V V V V λa hg=>Or.inr (Or.inl (⟨un V zQ,un V yk,un V yx,xh,hg,ς⟩))
   ·exact sq φ (Fr.cons φ.yv (φ.at_ 1 1 18 _ V Wo)) ς (zT (r:=1) yE V V V) 2 V V V V V V λa hg=>Or.inr (Or.inr (Or.inl (⟨un V zQ,un V yk,un V yx,xh,wT,hg,ς⟩)))
   ·exact zh (cA qg 18 2 V yx) qn
  ·obtain rfl:_=o:=qA ho
   have QI:S 2=true:=zK zX 0 V V
   rcases hI with ⟨zQ,yk,yx,φ,ς⟩|⟨zQ,yk,yx,xh,φ,ς⟩|⟨zQ,yk,yx,xh,wT,φ,ς⟩|⟨_,_,yx,_⟩
   ·exact sq φ (Fr.cons φ.yv (φ.at_ 2 2 19 _ V QI)) ς (xV (i:=1) jf V V V V) 3 V V V V V V λa hg=>Or.inl (⟨un V zQ,un V yk,un V yx,hg,ς⟩)
   ·exact sq φ (Fr.cons φ.yv (φ.at_ 2 2 19 _ V QI)) ς (xV (i:=2) jf V V V V) 3 V V V V V V λa hg=>Or.inr (Or.inl (⟨un V zQ,un V yk,un V yx,xh,hg,ς⟩))
   ·exact sq φ (Fr.cons φ.yv (φ.at_ 2 2 19 _ V QI)) ς (xV (i:=2) jf V V V V) 3 V V V V V V λa hg=>Or.inr (Or.inr (Or.inl (⟨un V zQ,un V yk,un V yx,xh,wT,hg,ς⟩)))
   ·exact zh (cA qg 18 3 V yx) qn
  ·obtain rfl:_=o:=qA ho
   rcases hI with ⟨zQ,yk,yx,φ,ς⟩|⟨zQ,yk,yx,xh,φ,ς⟩|⟨zQ,yk,yx,xh,wT,φ,ς⟩|⟨_,_,yx,_⟩
   ·exact sq φ φ.yv ς (zG V V) 4 V V V V V V λa hg=>Or.inl (⟨un V zQ,un V yk,un V yx,hg,ς⟩)
   ·exact sq φ φ.yv ς (zG V V) 4 V V V V V V λa hg=>Or.inr (Or.inl (⟨un V zQ,un V yk,un V yx,xh,hg,ς⟩))
   ·exact sq φ φ.yv ς (zG V V) 4 V V V V V V λa hg=>Or.inr (Or.inr (Or.inl (⟨un V zQ,un V yk,un V yx,xh,wT,hg,ς⟩)))
   ·exact zh (cA qg 18 4 V yx) qn
  ·obtain rfl:_=o:=qA ho
   rcases hI with ⟨zQ,yk,yx,φ,ς⟩|⟨zQ,_⟩|⟨zQ,_⟩|⟨zQ,_⟩
   ·exact sq φ φ.yv ς (zG V V) 5 V V V V V V λa hg=>Or.inl (⟨un V zQ,un V yk,un V yx,hg,ς⟩)
   ·exact zh (cA qg 12 5 V zQ) qn
   ·exact zh (cA qg 12 5 V zQ) qn
   ·exact zh (cA qg 12 5 V zQ) qn
  ·obtain rfl:_=o:=qA ho
   have Kk:S 5=true:=zK zX 0 V V
   rcases hI with ⟨zQ,yk,yx,φ,ς⟩|⟨zQ,_⟩|⟨zQ,_⟩|⟨zQ,_⟩
   ·exact sq φ (Fr.cons φ.yv (φ.at_ 5 5 22 _ V Kk)) ς (jC V V) 6 V V V V V V λa hg=>Or.inl (⟨un V zQ,un V yk,un V yx,hg,ς⟩)
   ·exact zh (cA qg 12 6 V zQ) qn
   ·exact zh (cA qg 12 6 V zQ) qn
   ·exact zh (cA qg 12 6 V zQ) qn
  ·obtain rfl:_=o:=qA ho
   have Uw:S 6=true:=zK zX 0 V V
   rcases hI with ⟨zQ,yk,yx,φ,ς⟩|⟨zQ,_⟩|⟨zQ,_⟩|⟨zQ,_⟩
   ·exact sq φ (Fr.cons φ.yv (φ.at_ 6 6 23 _ V Uw)) ς (zT (r:=1) yE V V V) 7 V V V V V V λa hg=>Or.inl (⟨un V zQ,un V yk,un V yx,hg,ς⟩)
   ·exact zh (cA qg 12 7 V zQ) qn
   ·exact zh (cA qg 12 7 V zQ) qn
   ·exact zh (cA qg 12 7 V zQ) qn
  ·obtain rfl:_=o:=qA ho
   have Gn:S 7=true:=zK zX 0 V V
   rcases hI with ⟨zQ,yk,yx,φ,ς⟩|⟨zQ,_⟩|⟨zQ,_⟩|⟨zQ,_⟩
   ·exact sq φ (Fr.cons φ.yv (φ.at_ 7 7 24 _ V Gn)) ς (xV (i:=1) jf V V V V) 8 V V V V V V λa hg=>Or.inl (⟨un V zQ,un V yk,un V yx,hg,ς⟩)
   ·exact zh (cA qg 12 8 V zQ) qn
   ·exact zh (cA qg 12 8 V zQ) qn
   ·exact zh (cA qg 12 8 V zQ) qn
  ·obtain rfl:_=o:=qA ho
   rcases hI with ⟨zQ,yk,yx,φ,ς⟩|⟨zQ,_⟩|⟨zQ,_⟩|⟨zQ,_⟩
   ·exact sq φ φ.yv ς (zG V V) 9 V V V V V V λa hg=>Or.inl (⟨un V zQ,un V yk,un V yx,hg,ς⟩)
   ·exact zh (cA qg 12 9 V zQ) qn
   ·exact zh (cA qg 12 9 V zQ) qn
   ·exact zh (cA qg 12 9 V zQ) qn
  ·obtain rfl:_=o:=qA ho
   have AF:S 8=true:=zK zX 0 V V
   have lg:S 9=true:=zK zX 1 V V
   rcases hI with ⟨zQ,yk,yx,φ,ς⟩|⟨zQ,_⟩|⟨zQ,_⟩|⟨zQ,_⟩
   ·exact sq φ (Fr.cons (Fr.cons φ.yv (φ.at_ 8 8 25 _ V AF)) (φ.at_ 9 9 26 _ V lg)) ς (gD (s:=(⟨v9,Yc M⟩:Ls RV)) (q:=t) j7 yM V V V (λw h=>(h.QL 2 V)) (by rw [xG];exact (show t<M.length from za))) 10 V V V V V V λa hg=>Or.inl (⟨un V zQ,un V yk,un V yx,hg,ς⟩)
   ·exact zh (cA qg 12 10 V zQ) qn
   ·exact zh (cA qg 12 10 V zQ) qn
   ·exact zh (cA qg 12 10 V zQ) qn
  ·obtain rfl:_=o:=qA ho
   have IU:S 10=true:=zK zX 0 V V
   rcases hI with ⟨zQ,yk,yx,φ,ς⟩|⟨zQ,_⟩|⟨zQ,_⟩|⟨zQ,_⟩
   ·exact sq φ (Fr.cons φ.yv (φ.at_ 10 10 27 _ V IU)) ς (Rn.same (x6 (s:=(⟨v9,Yc M⟩:Ls RV)) (i:=t) (v:=(nth (Yc M) t).v) yM V V V (λw h=>h.QL 2 V) (by rw [xG];exact (show t<M.length from za)) (y5 V) V) (VW M t)) 11 V V V V V V λa hg=>Or.inl (⟨un V zQ,un V yk,un V yx,hg,ς⟩)
   ·exact zh (cA qg 12 11 V zQ) qn
   ·exact zh (cA qg 12 11 V zQ) qn
   ·exact zh (cA qg 12 11 V zQ) qn
  ·obtain rfl:_=o:=qA ho
   have oD:S 11=true:=zK zX 0 V V
   rcases hI with ⟨zQ,yk,yx,φ,ς⟩|⟨zQ,_⟩|⟨zQ,_⟩|⟨zQ,_⟩
   ·have hs:=St.mk (Fr.cons φ.yv (φ.at_ 11 11 28 _ V oD)) ς
    refine yG (zD hs L3 V V V V V (lJ (nth M t) _ (hs.sh.cG 2 V t (show t<M.length from za)) (by first|omega|(simp only [qf];omega)))) (zg V _) ?_
    rintro PO M8 ⟨_,⟨s47,rfl,zhE⟩,zjS⟩ ⟨v0,zpy⟩
    have Ws:St _ K W PO M8 _ _:=⟨zjS,hs.sh.Hj zhE⟩
    clear zjS zhE
    exact Or.inr (Or.inl (⟨qV _ _,un V yk,un V yx,s47,φ.wU qg qn [0,1,2,3,4,5,6,7,8,9,10,11,12,13,14] zb zb zpy Ws.fr.defers (Ws.fr.at_ 29 _ V) 15 V V V V,(Ws.sh.zY [0,1,2,3,4,5,6] V)⟩))
   ·exact zh zQ qn
   ·exact zh zQ qn
   ·exact zh zQ qn
  ·obtain rfl:_=o:=qA ho
   rcases hI with ⟨zQ,yk,yx,φ,ς⟩|⟨zQ,yk,yx,xh,φ,ς⟩|⟨_,yk,_⟩|⟨_,yk,_⟩
   ·exact sq φ φ.yv ς (zG V V) 12 V V V V V V λa hg=>Or.inl (⟨un V zQ,un V yk,un V yx,hg,ς⟩)
   ·exact sq φ φ.yv ς (zG V V) 12 V V V V V V λa hg=>Or.inr (Or.inl (⟨un V zQ,un V yk,un V yx,xh,hg,ς⟩))
   ·exact zh (cA qg 16 13 V yk) qn
   ·exact zh (cA qg 16 13 V yk) qn
  ·obtain rfl:_=o:=qA ho
   rcases hI with ⟨zQ,yk,yx,φ,ς⟩|⟨zQ,yk,yx,xh,φ,ς⟩|⟨_,yk,_⟩|⟨_,yk,_⟩
   ·exact sq φ φ.yv ς (zG V V) 13 V V V V V V λa hg=>Or.inl (⟨un V zQ,un V yk,un V yx,hg,ς⟩)
   ·exact sq φ φ.yv ς (zG V V) 13 V V V V V V λa hg=>Or.inr (Or.inl (⟨un V zQ,un V yk,un V yx,xh,hg,ς⟩))
   ·exact zh (cA qg 16 14 V yk) qn
   ·exact zh (cA qg 16 14 V yk) qn
  ·obtain rfl:_=o:=qA ho
   have zj7:S 14=true:=zK zX 0 V V
   rcases hI with ⟨zQ,yk,yx,φ,ς⟩|⟨zQ,yk,yx,xh,φ,ς⟩|⟨_,yk,_⟩|⟨_,yk,_⟩
   ·exact sq φ (Fr.cons φ.yv (φ.at_ 13 14 31 _ V zj7)) ς (RY (p:=k) (q:=1) V V V (show k+1<9223372036854775808 from za)) 14 V V V V V V λa hg=>Or.inl (⟨un V zQ,un V yk,un V yx,hg,ς⟩)
   ·exact sq φ (Fr.cons φ.yv (φ.at_ 13 14 31 _ V zj7)) ς (RY (p:=k) (q:=1) V V V (show k+1<9223372036854775808 from za)) 14 V V V V V V λa hg=>Or.inr (Or.inl (⟨un V zQ,un V yk,un V yx,xh,hg,ς⟩))
   ·exact zh (cA qg 16 15 V yk) qn
   ·exact zh (cA qg 16 15 V yk) qn
  ·obtain rfl:_=o:=qA ho
   have lh:S 12=true:=zK zX 0 V V
   have zrU:S 13=true:=zK zX 1 V V
   have zrT:S 15=true:=zK zX 2 V V
   rcases hI with ⟨zQ,_⟩|⟨zQ,yk,yx,xh,φ,ς⟩|⟨_,yk,_⟩|⟨_,yk,_⟩
   ·exact zh lh zQ
   ·have hs:=St.mk (Fr.cons (Fr.cons (Fr.cons φ.yv (φ.at_ 15 12 29 _ V lh)) (φ.at_ 12 13 30 _ V zrU)) (φ.at_ 14 15 32 _ V zrT)) ς
    have nZ:=hs.sh.yT (Lp:= [_])
    refine yG (zD hs zd4 V V V V V (Ad _ (⟨xh.v,(nth M t).l⟩:Ls Wt) k (k+1) _ nZ (by first|omega|(simp only [qf];omega)))) (zg V _) ?_
    rintro a55 P6 ⟨_,⟨u55,rfl,zhB⟩,zjO⟩ ⟨v0,zpv⟩
    have GZ:St _ K W a55 P6 _ [_,_,_,_,_,_,_]:=⟨zjO,hs.sh.VF (Lp:= [_]) zhB⟩
    clear zjO zhB
    exact Or.inr (Or.inr (Or.inl (⟨un V zQ,qV _ _,un V yx,xh,u55,φ.wU qg qn [0,1,2,3,4,5,6,7,8,9,10,11,12,13,14,15] zb zb zpv GZ.fr.defers (GZ.fr.at_ 33 _ V) 16 V V V V,(GZ.sh.zY [0,1,2,3,4,5,6] V)⟩)))
   ·exact zh yk qn
   ·exact zh yk qn
  ·obtain rfl:_=o:=qA ho
   have Wn:S 3=true:=zK zX 0 V V
   have XG:S 4=true:=zK zX 1 V V
   have lh:S 12=true:=zK zX 14 V V
   have O1:S 16=true:=zK zX 18 V V
   rcases hI with ⟨zQ,_⟩|⟨_,yk,_⟩|⟨zQ,yk,yx,xh,wT,φ,ς⟩|⟨_,_,yx,_⟩
   ·exact zh lh zQ
   ·exact zh O1 yk
   ·exact sq φ (Fr.cons (Fr.cons φ.yv (φ.at_ 3 3 20 _ V Wn)) (φ.at_ 4 4 21 _ V XG)) ς (gD (s:=(⟨v9,Yc M⟩:Ls RV)) (q:=t) j7 yM V V V (λw h=>(h.QL 3 V)) (by rw [xG];exact (show t<M.length from za))) 17 V V V V V V λa hg=>Or.inr (Or.inr (Or.inl (⟨un V zQ,un V yk,un V yx,xh,wT,hg,ς⟩)))
   ·exact zh (cA qg 18 17 V yx) qn
  ·obtain rfl:_=o:=qA ho
   have zrS:S 17=true:=zK zX 0 V V
   have O1:S 16=true:=zK zX 1 V V
   have lh:S 12=true:=zK zX 15 V V
   rcases hI with ⟨zQ,_⟩|⟨_,yk,_⟩|⟨zQ,yk,yx,xh,wT,φ,ς⟩|⟨_,_,yx,_⟩
   ·exact zh lh zQ
   ·exact zh O1 yk
   ·have hs:=St.mk (Fr.cons (Fr.cons φ.yv (φ.at_ 16 16 33 _ V O1)) (φ.at_ 17 17 34 _ V zrS)) ς
    have zsl:=(hs.sh.own 0 V)
    have MT:=hs.zY (L' := [_,_,_,_,_,_,_]) [3,0,1,2,4,5,6] V
    refine yG (MZ (i:=t) (s:=(⟨wT.v,((nth M t).l).take k++((nth M t).l).drop (k+1)⟩:Ls Wt)) MT yM V V V V (show t<M.length from za) zsl) (zg V _) ?_
    rintro a59 w59 Rh ⟨v0,zpu⟩
    exact Or.inr (Or.inr (Or.inr (⟨un V zQ,un V yk,qV _ _,xh,wT,φ.aK qg qn [0,1,2,3,4,5,6,7,8,9,10,11,12,13,14,15,16,17] zb zb zpu Rh.fr.defers V,(Rh.sh.zY [0,1,2,3,4,5] V)⟩)))
   ·exact zh yx qn
  · simp at ho
 intro S zO a w hI
 clear XU
 rcases hI with ⟨zQ,yk,yx,φ,ς⟩|⟨zQ,yk,yx,xh,φ,ς⟩|⟨zQ,yk,yx,xh,wT,φ,ς⟩|⟨zQ,yk,yx,xh,wT,φ,ς⟩
 · exact zh (zO 12 zf) zQ
 · exact zh (zO 16 zf) yk
 · exact zh (zO 18 zf) yx
 have HQ:St 55 K W a w _ _:=⟨φ.yv,ς⟩
 clear zO φ ς zQ yk yx
 refine gG HQ<|hK Xe<|sG (qB DS V<|qw 1 w5 V V<|.nl)<|?_;clear HQ
 refine Xl V (λzsg=>?_) λzsg=>?_
 ·skip
  unfold Ap at hx
  rw [if_pos zc] at hx
  refine rT 7 [] (oM 1 V<|yb 2 YC W4 V V<|oM 1 V<|qB Vv V<|qw 1 zj V V<|.nl)<|gO [3,4,5,0,1,2] V<|gM 3 V (λ_ _ h_=>gQ h_ L9 V (fz _ g0 words owner ((t:Nat):Int) ((nth ((nth M t).l) k).wh) 0 _ (mY 3 h_ V) hx)) V<|?_
  rintro _ _ w65 ⟨rfl,zhy⟩
  refine oQ zhy V<|gU<|nN<|λa66 M7 B8=>?_;clear zhy
  try simp only [Exit.then,Exit.inBlock,if_true]
  refine qj (fn:=Tryz.f209) V B8 ?_
  first|rw [if_pos zc,if_pos zc]|rw [if_neg (by rw [show (nth (nth M t).l k).lock=false from zc];decide),if_neg (by rw [show (nth (nth M t).l k).lock=false from zc];decide)]
  exact ⟨V,(⟨wT.v,((nth M t).l).take k++((nth M t).l).drop (k+1)⟩:Ls Wt),(Hc _ _).symm,(B8.sh.zY [5,3,0,1,2] V)⟩
 unfold Ap at hx
 rw [if_neg (by rw [show (nth (nth M t).l k).lock=false from zc];decide)] at hx
 refine rT 9 [] (oM 1 V<|yb 2 YC W4 V V<|oM 1 V<|qB Vv V<|qw 1 zj V V<|qB DR V<|qw 1 zj V V<|.nl)<|gO [3,4,5,0,1,2] V<|gM 3 V (λ_ _ h_=>gQ h_ L8 V (aF _ g0 words owner ((t:Nat):Int) ((nth ((nth M t).l) k).wh) ((nth ((nth M t).l) k).qk) _ (mY 3 h_ V) hx)) V<|?_
 rintro _ _ w69 ⟨rfl,zhx⟩
 refine oQ zhx V<|gU<|nN<|λa70 w70 BH=>?_;clear zhx
 try simp only [Exit.then,Exit.inBlock,if_true]
 refine qj (fn:=Tryz.f209) V BH ?_
 first|rw [if_pos zc,if_pos zc]|rw [if_neg (by rw [show (nth (nth M t).l k).lock=false from zc];decide),if_neg (by rw [show (nth (nth M t).l k).lock=false from zc];decide)]
 exact ⟨V,(⟨wT.v,((nth M t).l).take k++((nth M t).l).drop (k+1)⟩:Ls Wt),(Hc _ _).symm,(BH.sh.zY [5,3,0,1,2] V)⟩
end Go.Proofs.YtmjkobhkkjgplaaGreatDoor
