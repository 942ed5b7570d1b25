/- Without clashes stores that pass each other cannot be seen: a program in which the program finds no clash, and one with a fence behind each store, has by its own outcomes just those of the document's machine without stores that wait; for every program: the statement holds, under no condition. -/
import Derived.Test.YtmjkobhkkjgplaaGreatDoorQ5
import Derived.Test.YtmjkobhkkjgplaaGreatDoorCards
import Derived.Test.YtmjkobhkkjgplaaGreatDoorTie
import Derived.LaidLaws
import Derived.LaidHandle
import Derived.LaidMore
import Derived.Handed
import Derived.SevenTiedAt
namespace Go.Proofs.YtmjkobhkkjgplaaGreatDoor
open Go.RowKit
set_option linter.unusedSimpArgs false
set_option linter.unusedVariables false
set_option maxRecDepth 100000
set_option maxHeartbeats 20000000
theorem N0 :yJ Qm:=jB.1 zb
theorem zbt :pH Qm:=by constructor<;>simp [Qm,Mx,vB,gy]
theorem NZ {code:Ls (Ls Ins)}{zi:Ls Int}(hc:code.l.map (·.l)=Qm.code)(hw:zi.l= [0]):ya code zi 0 1=Qm:=by
 simp only [ya,yH,hc,hw]
 rfl
theorem sR (code:Ls (Ls Ins))(zi:Ls Int)(W:World)(qY:code.At W)(yo:zi.At W)(hc:code.l.map (·.l)=Qm.code)(hw:zi.l= [0]):
  zP Tryz.prog 20 [.agg #[code.v,zi.v,.int .i64 0,.int .i64 1]] W (λv w' =>∃l:Ls Cl,v= .tuple #[l.v,.agg #[.int .i64 0,.int .i64 0,.int .i64 0]]/\l.l.length=1/\qM W w' [.own 58 l]):=by
 have e:=NZ hc hw
 refine zP.mono (oS code zi 0 1 W qY yo (e▸N0) (e▸zbt)) ?_
 rintro v w' ⟨l,ok,rfl,hf,hs⟩
 rw [e] at hf
 cases ok with
 |false=>exact absurd (hf.no V).1 Ej
 |true=>exact ⟨l,V,Ei (hf.yes V).2.1 (hf.yes V).2.2.2,hs⟩
theorem bg {p:Pg}{l:List Cl}{ok:Bool}(hf:tj p ok l)(zR:ok=true)(hl:¬0<l.length):Ar p:=Pe λc hc=>by
 have:=((hf.yes zR).2.2.2 c).2 hc
 have:=List.length_pos_of_mem this
 omega
theorem VC {b:Bool}(h:¬((if b=true then (0:Int) else 10)≠0)):b=true:=by cases b<;>simp at h⊢
theorem UF {b:Bool} :decide ((if b=true then (0:Int) else 10)=0)=b:=by cases b<;>rfl
theorem Pd {code:Ls (Ls Ins)}{o:Ls (Ls Bool)}(ho:o.l.map (·.l)=(List.range code.l.length).map (λt=>(nth code.l t).l.map (λx=>kb x.op))):
  (List.range code.l.length).map (λt=>JD (nth (nth o.l t).l) (nth code.l t).l)=(List.range code.l.length).map (λt=>JD (zsC code t) (nth code.l t).l):=by
 apply bG
 intro t ht
 refine eC λi hi=>?_
 rw [s5 ho t (by simpa using ht),zI _ _ _ hi]
 rfl
theorem vH {code:Ls (Ls Ins)}{o:Ls (Ls Bool)}(ho:o.l.map (·.l)=(List.range code.l.length).map (λt=>(nth code.l t).l.map (λx=>kb x.op))):o.l.length=code.l.length/\∀t,t<code.l.length->(nth o.l t).l.length=(nth code.l t).l.length:=
 ⟨LM ho,λt ht=>by rw [s5 ho t ht];simp⟩
theorem Y1 {code c:Ls (Ls Ins)}{words u:Ls Int}{o:Ls (Ls Bool)}{Lk R:Nat}(ho:o.l.map (·.l)=(List.range code.l.length).map (λt=>(nth code.l t).l.map (λx=>kb x.op)))(hq:c.l.map (·.l)=(List.range code.l.length).map (λt=>JD (nth (nth o.l t).l) (nth code.l t).l))(hu:u.l=words.l):ya c u Lk R=qz (ya code words Lk R):=by
 rw [Pd ho] at hq
 unfold ya yH qz
 rw [hq,hu]
 congr 1
 refine gi _ _ (by simp) λi hi=>?_
 have wm:i<code.l.length:=by simpa using hi
 rw [zI _ _ _ (by simpa using wm),zI _ _ _ (by simpa using wm),zI _ _ _ wm,show nth (List.range code.l.length) i=i by simp [nth,wm]]
 rfl
theorem Jj {p:Pg}(h:yJ (qz p)):∀t,t<p.code.length->(J5 (nth p.code t)).length<=400:=λt ht=>by
 have:=h.len t (by rw [xm];exact ht)
 rw [xq ht] at this
 exact this
theorem zgl (g:Nat)(W:World):
    zP Tryz.prog 63 [.pointer (some ⟨g,0,none⟩)] W (λv w' =>v= .tuple #[]/\qM W w' []):=by
 refine gen Tryz.func63 Tryz.ntmps63 (qM.start _:Sh (λ_=>False) W W []) V λjP z7=>gG z7<|gS<|λa11 w11 Pb=>?_;clear z7
 try simp only [Exit.then,Exit.inBlock,if_true]
 refine qj (fn:=Tryz.f63) V Pb ?_
 exact ⟨V,(Pb.sh.zY [] V)⟩
theorem aC (code:Ls (Ls Ins))(zi:Ls Int)(Lk R:Nat)(W:World)(qY:code.At W)(yo:zi.At W)(zR:yJ (ya code zi Lk R))(hR:pH (ya code zi Lk R)):
    zP Tryz.prog 24 [.agg #[code.v,zi.v,.int .i64 ((Lk:Nat):Int),.int .i64 ((R:Nat):Int)]] W (λv w' =>∃(u:Ls zC) (ok:Bool),v= .tuple #[u.v,.agg #[.int .i64 (if ok=true then 0 else 10),.int .i64 0,.int .i64 0]]/\KB (ya code zi Lk R) 2 (λ(_:Unit) _=>()) () (λ_=>False) W ok u ()/\qM W w' [.own 39 u]):=by
 obtain ⟨iL,qg,aV,gv,hR2⟩:=ga zR
 have hz:yC (yH code zi ((Lk:Nat):Int) ((R:Nat):Int))=⟨0,0,0⟩:=Yg zR
 refine gen Tryz.func24 Tryz.ntmps24 (qM.Jo qY yo:Sh (λ_=>False) W W [.at_ code,.at_ zi]) V λjP z7=>gG z7<|sK λ_ kz=>XV V V λxX=>zn (oM 1 V<|.nl)<|Q2 yR V λgk=>nK kz<|gK λ_ Xp=>sK λ_ Xe=>zn (kt 1 qu V V<|.nl)<|λa17 By jk=>zL (zD jk LZ V V V V V (Kw (code:=code) (words:=zi) (zm:=((Lk:Nat):Int)) (ze:=((R:Nat):Int)) (jk.sh.at 2 V) (jk.sh.at 3 V))) (zg V _) ?_;clear z7
 rintro HS Hx ⟨_,⟨rfl,HK⟩,DF⟩
 have jc:St 25 (λ_=>False) W HS Hx _ _:=⟨DF,jk.sh.jv HK⟩
 clear DF HK
 clear jk
 refine gG jc<|Q2 yR V λb19=>YK 0 yR V V V<|nK Xe<|sG (qB xU V<|qw 0 kD V V<|QW _ _ V<|.nl)<|Q1 V (by rw [hz];rfl)<|gS<|hK Xp<|λa23 tx kq=>?_;clear jc
 have V8:St _ _ _ _ _ _ _:=⟨kq.fr,kq.sh.emp⟩
 clear kq
 refine gG V8<|gK λ_ Ke=>gF [0,1,2,3,4,7,8,9,10,11] V<|λa26 lX Y0=>Wz ((λΦ Ψ S a w=>(S 2=false/\S 3=false/\kH 25 S Φ Ψ a/\Sh (λ_=>False) W w [zZ.emp,.zM b19 28 [.int .i64 ((yC (yH code zi ((Lk:Nat):Int) ((R:Nat):Int))).code),.int .i64 ((yC (yH code zi ((Lk:Nat):Int) ((R:Nat):Int))).G6),.int .i64 ((yC (yH code zi ((Lk:Nat):Int) ((R:Nat):Int))).at_)],.zM gk 28 [.int .i64 0,.int .i64 0,.int .i64 0],.zM xX 25 [code.v,zi.v,.int .i64 ((Lk:Nat):Int),.int .i64 ((R:Nat):Int)],.at_ code,.at_ zi])\/(S 2=true/\S 3=false/\∃(jm:Nat) (jl:Nat) (yf:Nat) (qJ:Ls Int) (qK:Ls Int) (kE:Ls (Ls Wt)),(qJ.l=zi.l)/\(qK.l=List.replicate Lk (-1))/\((ky jm jl yf).qs kE=List.replicate code.l.length [])/\kH 25 S Φ (Ψ++ [(2,16,.iface (ky jm jl yf).T (.pointer (some (ky jm jl yf).u)))]) a/\Sh (λ_=>False) W w [.zM yf 182 [qJ.v,qK.v],.own 3 qJ,.own 3 qK,(ky jm jl yf).X kE,zZ.emp,.zM b19 28 [.int .i64 ((yC (yH code zi ((Lk:Nat):Int) ((R:Nat):Int))).code),.int .i64 ((yC (yH code zi ((Lk:Nat):Int) ((R:Nat):Int))).G6),.int .i64 ((yC (yH code zi ((Lk:Nat):Int) ((R:Nat):Int))).at_)],.zM gk 28 [.int .i64 0,.int .i64 0,.int .i64 0],.zM xX 25 [code.v,zi.v,.int .i64 ((Lk:Nat):Int),.int .i64 ((R:Nat):Int)],.at_ code,.at_ zi])\/(S 2=true/\S 3=true/\∃(jm:Nat) (jl:Nat) (yf:Nat) (qJ:Ls Int) (qK:Ls Int) (kE:Ls (Ls Wt)) (gZ:Ls zC) (vK:Bool) (JC:Unit),(qJ.l=zi.l)/\(qK.l=List.replicate Lk (-1))/\((ky jm jl yf).qs kE=List.replicate code.l.length [])/\(KB (ya code zi Lk R) 2 (λ(_:Unit) _=>()) () (λ_=>False) W vK gZ JC)/\kH 25 S Φ (Ψ++ [(2,16,.iface (ky jm jl yf).T (.pointer (some (ky jm jl yf).u))),(3,17,.tuple #[gZ.v,.bool vK]),(4,13,.tuple #[gZ.v,.bool vK]),(5,18,gZ.v),(6,19,.bool vK),(7,5,gZ.v),(8,6,.bool vK)]) a/\Sh (λ_=>False) W w [.own 39 gZ,zZ.emp,.zM b19 28 [.int .i64 ((yC (yH code zi ((Lk:Nat):Int) ((R:Nat):Int))).code),.int .i64 ((yC (yH code zi ((Lk:Nat):Int) ((R:Nat):Int))).G6),.int .i64 ((yC (yH code zi ((Lk:Nat):Int) ((R:Nat):Int))).at_)],.zM gk 28 [.int .i64 0,.int .i64 0,.int .i64 0],.zM xX 25 [code.v,zi.v,.int .i64 ((Lk:Nat):Int),.int .i64 ((R:Nat):Int)],.at_ zi])) [(0,.agg #[code.v,zi.v,.int .i64 ((Lk:Nat):Int),.int .i64 ((R:Nat):Int)]),(1,.pointer (some ⟨xX,0,none⟩)),(2,(.slice none 0 0)),(3,.pointer (some ⟨gk,0,none⟩)),(4,.pointer (some ⟨b19,0,none⟩)),(7,.agg #[code.v,zi.v,.int .i64 ((Lk:Nat):Int),.int .i64 ((R:Nat):Int)]),(8,.agg #[.int .i64 ((yC (yH code zi ((Lk:Nat):Int) ((R:Nat):Int))).code),.int .i64 ((yC (yH code zi ((Lk:Nat):Int) ((R:Nat):Int))).G6),.int .i64 ((yC (yH code zi ((Lk:Nat):Int) ((R:Nat):Int))).at_)]),(9,.pointer (some ⟨b19,0,none⟩)),(10,.int .i64 ((yC (yH code zi ((Lk:Nat):Int) ((R:Nat):Int))).code)),(11,.bool (decide ((yC (yH code zi ((Lk:Nat):Int) ((R:Nat):Int))).code≠0)))] [(0,14,.agg #[code.v,zi.v,.int .i64 ((Lk:Nat):Int),.int .i64 ((R:Nat):Int)]),(1,15,.agg #[code.v,zi.v,.int .i64 ((Lk:Nat):Int),.int .i64 ((R:Nat):Int)])]) zb zb (Or.inl (⟨V,V,kH.start Y0.fr,Y0.sh.drew⟩)) ?_ ?_;clear V8
 ·intro S i o ho qn qg zX a w hI
  clear Y0
  rcases i with _|_|_|_|_|_|_|_|_|i
  ·obtain rfl:_=o:=qA ho
   rcases hI with ⟨yj,jE,φ,ς⟩|⟨yj,jE,jm,jl,yf,qJ,qK,kE,yd,ye,kM,φ,ς⟩|⟨_,jE,_⟩
   ·exact sq φ φ.yv ς (Jd (i:=3) (vs:= [code.v,zi.v,.int .i64 ((Lk:Nat):Int),.int .i64 ((R:Nat):Int)]) qu V V V V V) 0 V V V V V V λa hg=>Or.inl (⟨un V yj,un V jE,hg,ς⟩)
   ·exact sq φ φ.yv ς (Jd (i:=7) (vs:= [code.v,zi.v,.int .i64 ((Lk:Nat):Int),.int .i64 ((R:Nat):Int)]) qu V V V V V) 0 V V V V V V λa hg=>Or.inr (Or.inl (⟨un V yj,un V jE,jm,jl,yf,qJ,qK,kE,yd,ye,kM,hg,ς⟩))
   ·exact zh (cA qg 3 0 V jE) qn
  ·obtain rfl:_=o:=qA ho
   rcases hI with ⟨yj,jE,φ,ς⟩|⟨yj,_⟩|⟨yj,_⟩
   ·exact sq φ φ.yv ς (Jd (i:=3) (vs:= [code.v,zi.v,.int .i64 ((Lk:Nat):Int),.int .i64 ((R:Nat):Int)]) qu V V V V V) 1 V V V V V V λa hg=>Or.inl (⟨un V yj,un V jE,hg,ς⟩)
   ·exact zh (cA qg 2 1 V yj) qn
   ·exact zh (cA qg 2 1 V yj) qn
  ·obtain rfl:_=o:=qA ho
   have Wo:S 1=true:=zK zX 0 V V
   rcases hI with ⟨yj,jE,φ,ς⟩|⟨yj,_⟩|⟨yj,_⟩
   ·have hs:=St.mk (Fr.cons φ.yv (φ.at_ 1 1 15 _ V Wo)) ς
    refine yG (zD hs zlP V V V V V (EA code zi Lk ((R:Nat):Int) _ (hs.sh.at 4 V) (hs.sh.at 5 V) za aV gv)) (zg V _) ?_
    rintro a33 M9 ⟨_,⟨zsB,zsA,g33,zom,zou,q33,rfl,ziG,ziQ,zpY,Fb⟩,IN⟩ ⟨v0,zpE⟩
    have Vb:=(⟨IN,hs.sh.call Fb (by intro A hA b hb;simp only [km,z6,qd,or_false] at hA;first|(subst hA;exact Flat.qh hb)|(rcases hA with rfl|rfl|rfl|rfl<;>first|exact (hb:False).elim|exact Flat.qh hb|exact (Z3 hb).elim|exact (cD hb).elim))⟩:St 25 (λ_=>False) W a33 M9 _ _)
    clear IN Fb
    exact Or.inr (Or.inl (⟨qV _ _,un V jE,zsB,zsA,g33,zom,zou,q33,ziG,ziQ,zpY,φ.wU qg qn [0,1] zb zb zpE Vb.fr.defers (Vb.fr.at_ 16 _ V) 2 V V V V,(Vb.sh.zY [0,1,2,3,4,5,6,7,8,9] V)⟩))
   ·exact zh yj qn
   ·exact zh yj qn
  ·obtain rfl:_=o:=qA ho
   have BE:S 0=true:=zK zX 0 V V
   have QI:S 2=true:=zK zX 1 V V
   rcases hI with ⟨yj,_⟩|⟨yj,jE,jm,jl,yf,qJ,qK,kE,yd,ye,kM,φ,ς⟩|⟨_,jE,_⟩
   ·exact zh QI yj
   ·have hs:=St.mk (Fr.cons (Fr.cons φ.yv (φ.at_ 0 0 14 _ V BE)) (φ.at_ 2 2 16 _ V QI)) ς
    have YA:=hs.zY (L' := [_,_,_,_,_,_,_,_,_,_]) [0,1,2,3,8,4,5,6,7,9] V
    have zcC:=YA.sh.yT (Lp:= [_,_,_,_,_,_])
    refine yG (zD YA zan V V V V V (sI _ FL Unit (λ_=>zZ.emp) (λ_ _=>()) () 63 [] [] (jm,jl,yf) kE code zi qJ qK _ Lk R _ zmd zcC zR hR kM yd ye zlO (λ_ _ h=>h) (λK' W' gp x z _ _ h9=>zP.mono (zgl x.g W') λv w' h8=>⟨h8.1,h9.jv h8.2⟩))) (zg V _) ?_
    rintro py lV ⟨_,⟨u36,zob,z36,rfl,To,im⟩,IL⟩ ⟨v0,nM⟩
    have zjx:=To.up (K' :=λ_=>False) (W' :=W) (λb hb=>YA.sh.Sq (Lp:= [.zM yf 182 [qJ.v,qK.v],.own 3 qJ,.own 3 qK,(ky jm jl yf).X kE,.at_ code,zZ.emp]) hb)
    have QJ:St 25 (λ_=>False) W py lV _ [_,_,_,_,_,_]:=⟨IL,YA.sh.xP (Lp:= [_,_,_,_,_,_]) im (by intro A hA b hb;simp only [z6,qd,or_false] at hA;rcases hA with rfl|rfl<;>first|exact (hb:False).elim|exact Flat.qh hb|exact .inl ⟨_,xx ..,.inr hb⟩|(obtain ⟨i9,Yv,YJ⟩:=hb;exact (To.nw _ (qb _ _ Yv) _ YJ).elim (λ⟨A9,hA9,B4⟩=> .inl ⟨A9,hA9,.inl B4⟩) (λh9=> .inr (.inr h9)))|exact .inl ⟨_,by simp,.inr hb⟩)⟩
    clear IL im
    exact Or.inr (Or.inr (⟨un V yj,qV _ _,jm,jl,yf,qJ,qK,kE,u36,zob,z36,yd,ye,kM,zjx,φ.wU qg qn [0,1,2] zb zb nM QJ.fr.defers (QJ.fr.at_ 17 _ V) 3 V V V V,(QJ.sh.zY [0,1,2,3,4,5] V)⟩))
   ·exact zh jE qn
  ·obtain rfl:_=o:=qA ho
   have Wn:S 3=true:=zK zX 0 V V
   rcases hI with ⟨yj,_⟩|⟨_,jE,_⟩|⟨yj,jE,jm,jl,yf,qJ,qK,kE,gZ,vK,JC,yd,ye,kM,gd,φ,ς⟩
   ·exact zh (cA qg 3 2 V Wn) yj
   ·exact zh Wn jE
   ·exact sq φ (Fr.cons φ.yv (φ.at_ 3 3 17 _ V Wn)) ς (zG V V) 4 V V V V V V λa hg=>Or.inr (Or.inr (⟨un V yj,un V jE,jm,jl,yf,qJ,qK,kE,gZ,vK,JC,yd,ye,kM,gd,hg,ς⟩))
  ·obtain rfl:_=o:=qA ho
   have XG:S 4=true:=zK zX 0 V V
   rcases hI with ⟨yj,_⟩|⟨_,jE,_⟩|⟨yj,jE,jm,jl,yf,qJ,qK,kE,gZ,vK,JC,yd,ye,kM,gd,φ,ς⟩
   ·exact zh (cA qg 4 2 V XG) yj
   ·exact zh (cA qg 4 3 V XG) jE
   ·exact sq φ (Fr.cons φ.yv (φ.at_ 4 4 13 _ V XG)) ς (Xw V V V) 5 V V V V V V λa hg=>Or.inr (Or.inr (⟨un V yj,un V jE,jm,jl,yf,qJ,qK,kE,gZ,vK,JC,yd,ye,kM,gd,hg,ς⟩))
  ·obtain rfl:_=o:=qA ho
   have XG:S 4=true:=zK zX 0 V V
   rcases hI with ⟨yj,_⟩|⟨_,jE,_⟩|⟨yj,jE,jm,jl,yf,qJ,qK,kE,gZ,vK,JC,yd,ye,kM,gd,φ,ς⟩
   ·exact zh (cA qg 4 2 V XG) yj
   ·exact zh (cA qg 4 3 V XG) jE
   ·exact sq φ (Fr.cons φ.yv (φ.at_ 4 4 13 _ V XG)) ς (Xw V V V) 6 V V V V V V λa hg=>Or.inr (Or.inr (⟨un V yj,un V jE,jm,jl,yf,qJ,qK,kE,gZ,vK,JC,yd,ye,kM,gd,hg,ς⟩))
  ·obtain rfl:_=o:=qA ho
   have Kk:S 5=true:=zK zX 0 V V
   have Wn:S 3=true:=zK zX 1 V V
   have QI:S 2=true:=zK zX 4 V V
   rcases hI with ⟨yj,_⟩|⟨_,jE,_⟩|⟨yj,jE,jm,jl,yf,qJ,qK,kE,gZ,vK,JC,yd,ye,kM,gd,φ,ς⟩
   ·exact zh QI yj
   ·exact zh Wn jE
   ·exact sq φ (Fr.cons φ.yv (φ.at_ 5 5 18 _ V Kk)) ς (Zd V V) 7 V V V V V V λa hg=>Or.inr (Or.inr (⟨un V yj,un V jE,jm,jl,yf,qJ,qK,kE,gZ,vK,JC,yd,ye,kM,gd,hg,ς⟩))
  ·obtain rfl:_=o:=qA ho
   have Uw:S 6=true:=zK zX 0 V V
   have QI:S 2=true:=zK zX 4 V V
   have Wn:S 3=true:=zK zX 5 V V
   rcases hI with ⟨yj,_⟩|⟨_,jE,_⟩|⟨yj,jE,jm,jl,yf,qJ,qK,kE,gZ,vK,JC,yd,ye,kM,gd,φ,ς⟩
   ·exact zh QI yj
   ·exact zh Wn jE
   ·exact sq φ (Fr.cons φ.yv (φ.at_ 6 6 19 _ V Uw)) ς (Zd V V) 8 V V V V V V λa hg=>Or.inr (Or.inr (⟨un V yj,un V jE,jm,jl,yf,qJ,qK,kE,gZ,vK,JC,yd,ye,kM,gd,hg,ς⟩))
  · simp at ho
 intro S zO a w hI
 clear Y0
 rcases hI with ⟨yj,jE,φ,ς⟩|⟨yj,jE,jm,jl,yf,qJ,qK,kE,yd,ye,kM,φ,ς⟩|⟨yj,jE,jm,jl,yf,qJ,qK,kE,gZ,vK,JC,yd,ye,kM,gd,φ,ς⟩
 · exact zh (zO 2 zf) yj
 · exact zh (zO 3 zf) jE
 have WM:St 25 (λ_=>False) W a w _ _:=⟨(Fr.cons (Fr.cons φ.yv (φ.at_ 7 7 5 _ V (zO 7 zf))) (φ.at_ 8 8 6 _ V (zO 8 zf))),ς⟩
 clear zO φ ς yj jE
 refine gG WM<|hK Ke<|gK λ_ k43=>sG (oM 1 V<|rM V<|.nl)<|?_;clear WM
 refine Xl V (λc9=>?_) λc9=>?_
 ·have zcS:vK=false:=(wE _).mp c9
  refine sK λ_ k46=>zn (oV (q8 (cs:= [.int .i64 10,.int .i64 0,.int .i64 0]) V V zb) V<|oM 1 V<|.nl)<|YK 3 yR V V V<|nK k46<|gR<|uT<|λAo tt Yy=>KH (fn:=Tryz.f24) (t:=3) (u:=2) (i:=3) yR V Yy V V V V ?_
  have U7:=Yy.nil (α:=zC) 39
  clear Yy
  have iE:vK=false:=by simpa using zcS
  exact ⟨⟨.slice none 0 0,[]⟩,false,V,KB.zok (u:=gZ) (iE▸gd),(U7.sh.zY [0] V)⟩
 have zcS:vK=true:=(JS _).mp c9
 refine gS<|hK k43<|sK λ_ MJ=>zn (oM 1 V<|oV (q8 (cs:= [.int .i64 0,.int .i64 0,.int .i64 0]) V V zb) V<|oM 1 V<|.nl)<|YK 3 yR V V V<|nK MJ<|gR<|λMV MB G0=>KH (fn:=Tryz.f24) (t:=3) (u:=2) (i:=3) yR V G0 V V V V ?_
 have iE:vK=true:=by simpa using zcS
 exact ⟨gZ,true,V,iE▸gd,(G0.sh.zY [0] V)⟩
theorem ry (code:Ls (Ls Ins))(words:Ls Int)(zm ze:Int)(W:World)(qY:code.At W)(yo:words.At W)(hz:(yC (yH code words zm ze)).code≠0):
    zP Tryz.prog 24 [.agg #[code.v,words.v,.int .i64 zm,.int .i64 ze]] W (λv w' =>v= .tuple #[.slice none 0 0,(yC (yH code words zm ze)).val]/\qM W w' []):=by
 refine gen Tryz.func24 Tryz.ntmps24 (qM.Jo qY yo:Sh (λ_=>False) W W [.at_ code,.at_ words]) V λjP z7=>gG z7<|sK λ_ kz=>XV V V λxX=>zn (oM 1 V<|.nl)<|Q2 yR V λgk=>nK kz<|gK λ_ Xp=>sK λ_ Xe=>zn (kt 1 qu V V<|.nl)<|gC (λ_ _ h_=>gQ h_ LZ V (Kw (code:=code) (words:=words) (zm:=zm) (ze:=ze) (h_.sh.at 2 V) (h_.sh.at 3 V))) V<|?_;clear z7
 rintro _ _ Hy ⟨rfl,Ge⟩
 refine dZ Ge V<|gU<|Q2 yR V λb17=>YK 0 yR V V V<|nK Xe<|sG (qB xU V<|qw 0 kD V V<|QW _ _ V<|.nl)<|BJ V (decide_eq_true hz)<|gK λ_ K7=>rT 2 [] (kt 0 yR V V<|oM 1 V<|.nl)<|YK 1 yR V V V<|nK K7<|gR<|uT<|λa22 eI V8=>?_;clear Ge
 refine KH (fn:=Tryz.f24) (t:=3) (u:=2) (i:=1) yR V V8 V V V V ?_
 exact ⟨V,(V8.sh.zY [] V)⟩
theorem r4 (code:Ls (Ls Ins))(words:Ls Int)(Lk R:Nat)(W:World)(qY:code.At W)(yo:words.At W)(zR:yJ (ya code words Lk R)):
    zP Tryz.prog 30 [.agg #[code.v,words.v,.int .i64 ((Lk:Nat):Int),.int .i64 ((R:Nat):Int)],.bool false] W (λv w' =>∃(g:Nat) (full:Bool) (sv kv hv bv:Value) (ends:Ls zC),v= .pointer (some ⟨g,0,none⟩)/\(full=true↔pK (ya code words Lk R) 0)/\(full=false->j0 (ends.l.map zC.out)/\∀o,o∈ends.l.map zC.out↔jq (ya code words Lk R) 0 o)/\ends.l.length<=70000/\(∀o∈ends.l,∀b,zz.on o b->W.heap.size<=b)/\qM W w' [.zM g 52 [sv,kv,hv,bv,ends.v,.bool full],.own 39 ends]):=by
 refine gen Tryz.func30 Tryz.ntmps30 (qM.Jo qY yo:Sh (λ_=>False) W W [.at_ code,.at_ words]) V λjP z7=>gG z7<|sK λ_ kz=>XV V V λxX=>zn (oM 1 V<|.nl)<|nK kz<|gK λ_ gu=>sG (oM 1 V<|.nl)<|Q1 V V<|gS<|hK gu<|sK λ_ Xe=>zn (kt 0 qu V V<|.nl)<|λa17 By jk=>zL (zD jk zlU V V V V V (zsW code words Lk R 0 _ (jk.sh.at 1 V) (jk.sh.at 2 V) zR)) (zg V _) ?_;clear z7
 rintro HS Hx ⟨_,⟨g18,zsE,zvJ,zv5,zwA,zyF,zsG,rfl,zks,zkf,zj5,S8,HK⟩,DF⟩
 have zhh:=jk.sh.J6.size
 have jc:=(⟨DF,jk.sh.call HK (by intro A hA b hb;simp only [z6,qd,or_false] at hA;rcases hA with rfl|rfl;exact (hb:False).elim;exact .inl (by obtain ⟨i9,Yv,YJ⟩:=hb;exact S8 _ (qb _ _ Yv) b YJ))⟩:St 10 (λ_=>False) W HS Hx _ _)
 clear DF HK
 clear jk
 refine gG jc<|zn (oM 1 V<|.nl)<|nK Xe<|gR<|λPS Na XU=>zu (fn:=Tryz.f30) (t:=4) V XU V ?_;clear jc
 exact ⟨g18,zsE,_,_,_,_,zsG,V,zks,zkf,zj5,(λo ho b hb=>vZ zhh (S8 o ho b hb)),(XU.sh.zY [0,1] V)⟩
theorem tV (code:Ls (Ls Ins))(words:Ls Int)(zm ze:Int)(W:World)(qY:code.At W)(yo:words.At W)(hv:UM (code.l.map (·.l)) words.l=true):
    zP Tryz.prog 12 [.agg #[code.v,words.v,.int .i64 zm,.int .i64 ze]] W (λv w' =>v= .bool true/\qM W w' []):=by
 refine gen Tryz.func12 Tryz.ntmps12 (qM.Jo qY yo:Sh (λ_=>False) W W [.at_ code,.at_ words]) V λjP z7=>gG z7<|sK λ_ kz=>XV V V λxX=>zn (oM 1 V<|.nl)<|nK kz<|sK λ_ gu=>zn (oV (q8 (cs:= [.int .i64 9,.int .i64 0,.int .i64 0,.int .i64 0]) V V zb) V<|.nl)<|xb (λ_ _ h_=>qF (n:=1) (cs:= [.int .i64 9,.int .i64 0,.int .i64 0,.int .i64 0]) ([(⟨9,0,0,0⟩:Ins)]:List Ins) h_ yZ qG V V V zf V zb V (λq hq w h=>Flat.inner _ _) (λq hq b hb=>(Flat.on _ _ hb).elim) V V) V λKC=>zn (oV (q8 (cs:= [.int .i64 8,.int .i64 0,.int .i64 0,.int .i64 0]) V V zb) V<|.nl)<|xb (λ_ _ h_=>qF (n:=1) (cs:= [.int .i64 8,.int .i64 0,.int .i64 0,.int .i64 0]) ([(⟨8,0,0,0⟩:Ins)]:List Ins) h_ yZ qG V V V zf V zb V (λq hq w h=>Flat.inner _ _) (λq hq b hb=>(Flat.on _ _ hb).elim) V V) V λHC=>λa20 mw wV=>zL (qF (n:=2) (cs:= [KC,HC]) ([⟨KC⟩,⟨HC⟩]:List RV) wV vp jN V V V zf V (by obtain ⟨A21,n21,c21,(e21:KC=_)⟩:=((wV.sh.own 1 V)).form;rw [e21];obtain ⟨A19,n19,c19,(e19:HC=_)⟩:=((wV.sh.own 0 V)).form;rw [e19];kernel_rfl) V (λ_ _ _ _=>trivial) (λq hq b hb=>(Flat.on _ _ hb).elim) V V) (zg V _) ?_;clear z7
 rintro a22 eI ⟨v22,V8⟩
 have kq:=V8.zY (L' := [_,_,_,_,_,_]) [0,2,1,3,4,5] V
 have wJ:St 96 (λ_=>False) W a22 eI _ _:=⟨kq.fr,(Sh.close (B:=jU (.own 32) 33 v22 [(⟨KC,[(⟨9,0,0,0⟩:Ins)]⟩:Ls Ins),(⟨HC,[(⟨8,0,0,0⟩:Ins)]⟩:Ls Ins)]) kq.sh).K4 VU⟩
 clear kq
 clear wV
 refine gG wJ<|xb (λ_ _ h_=>qF (n:=1) (cs:= [.int .i64 0]) ([0]:List Int) h_ zt zj V V V zf V zb V (λq hq w h=>Flat.inner _ _) (λq hq b hb=>(Flat.on _ _ hb).elim) V V) V λv25=>zn (oV (xW (cs:= [v22,v25,.int .i64 0,.int .i64 1]) V V (λw h=>by obtain ⟨A27,n27,c27,(e27:v25=_)⟩:=((h.own 0 V)).form;rw [e27];obtain ⟨A26,n26,c26,(Pp:v22=_)⟩:=((h.deep 1 V)).form;rw [Pp];kernel_rfl)) V<|.nl)<|λmg lW w8=>?_;clear wJ
 refine zL (zD w8 bA V V V V V (sR (⟨v22,[(⟨KC,[(⟨9,0,0,0⟩:Ins)]⟩:Ls Ins),(⟨HC,[(⟨8,0,0,0⟩:Ins)]⟩:Ls Ins)]⟩:Ls (Ls Ins)) (⟨v25,[0]⟩:Ls Int) _ (w8.sh.deep 1 V) (w8.sh.own 0 V) V V)) (zg V _) ?_
 rintro ec ak ⟨_,⟨nz,rfl,Ig,Yt⟩,Vt⟩
 have Qp:=(⟨Vt,w8.sh.call Yt (by intro A hA b hb;simp only [z6,qd,or_false] at hA;first|(subst hA;exact Flat.qh hb)|(rcases hA with rfl|rfl<;>first|exact (hb:False).elim|exact Flat.qh hb|exact .inl (hb:_)))⟩:St 96 (λ_=>False) W ec ak _ _)
 clear Vt Yt
 clear w8
 refine gG Qp<|zn (oM 1 V<|kK V<|kK V<|.nl)<|Q2 yR V λb31=>zn (oM 1 V<|.nl)<|YK 0 yR V V V<|nK gu<|gK λ_ Ur=>sK λ_ BA=>y4 (aO 1 V) λIj=>zn (qB xU V<|qw 0 kD V V<|ue 0 0 V<|oM 1 V<|oG zf (zG V V) V<|oG zf (Zc (s:=nz) (n:=nz.l.length) UP V V (λw h=>(h.own 1 V)) V) V<|oG zf (RT (p:=nz.l.length) (q:=1) V V V) V<|Zx zf V<|.nl)<|nK BA<|Q1 V (decide_eq_false za)<|gS<|hK Ur<|gK λ_ ia=>sK λ_ Dd=>zn (kt 4 qu V V<|.nl)<|λa39 pV QC=>zL (zD QC tc V V V V V (bV (code:=code) (words:=words) (zm:=zm) (ze:=ze) (QC.sh.at 5 V) (QC.sh.at 6 V))) (zg V _) ?_;clear Qp
 rintro a40 mr ⟨_,⟨rfl,Dk⟩,DC⟩
 have YO:St 96 (λ_=>False) W a40 mr _ _:=⟨DC,QC.sh.jv Dk⟩
 clear DC Dk
 clear QC
 refine gG YO<|nK Dd<|gF [1,4,32] V<|BJ V hv<|sG (oM 1 V<|.nl)<|gR<|uT<|λa42 w42 WM=>zu (fn:=Tryz.f12) (t:=2) V WM V<|⟨?_,(WM.sh.zY [] V)⟩;clear YO
 rfl
theorem tY (code:Ls (Ls Ins))(words:Ls Int)(zm ze:Int)(W:World)(qY:code.At W)(yo:words.At W)(hv:UM (code.l.map (·.l)) words.l=false)(hz:(yC (yH code words zm ze)).code≠0):
    zP Tryz.prog 12 [.agg #[code.v,words.v,.int .i64 zm,.int .i64 ze]] W (λv w' =>v= .bool true/\qM W w' []):=by
 refine gen Tryz.func12 Tryz.ntmps12 (qM.Jo qY yo:Sh (λ_=>False) W W [.at_ code,.at_ words]) V λjP z7=>gG z7<|sK λ_ kz=>XV V V λxX=>zn (oM 1 V<|.nl)<|nK kz<|sK λ_ gu=>zn (oV (q8 (cs:= [.int .i64 9,.int .i64 0,.int .i64 0,.int .i64 0]) V V zb) V<|.nl)<|xb (λ_ _ h_=>qF (n:=1) (cs:= [.int .i64 9,.int .i64 0,.int .i64 0,.int .i64 0]) ([(⟨9,0,0,0⟩:Ins)]:List Ins) h_ yZ qG V V V zf V zb V (λq hq w h=>Flat.inner _ _) (λq hq b hb=>(Flat.on _ _ hb).elim) V V) V λKC=>zn (oV (q8 (cs:= [.int .i64 8,.int .i64 0,.int .i64 0,.int .i64 0]) V V zb) V<|.nl)<|xb (λ_ _ h_=>qF (n:=1) (cs:= [.int .i64 8,.int .i64 0,.int .i64 0,.int .i64 0]) ([(⟨8,0,0,0⟩:Ins)]:List Ins) h_ yZ qG V V V zf V zb V (λq hq w h=>Flat.inner _ _) (λq hq b hb=>(Flat.on _ _ hb).elim) V V) V λHC=>λa20 mw wV=>zL (qF (n:=2) (cs:= [KC,HC]) ([⟨KC⟩,⟨HC⟩]:List RV) wV vp jN V V V zf V (by obtain ⟨A21,n21,c21,(e21:KC=_)⟩:=((wV.sh.own 1 V)).form;rw [e21];obtain ⟨A19,n19,c19,(e19:HC=_)⟩:=((wV.sh.own 0 V)).form;rw [e19];kernel_rfl) V (λ_ _ _ _=>trivial) (λq hq b hb=>(Flat.on _ _ hb).elim) V V) (zg V _) ?_;clear z7
 rintro a22 eI ⟨v22,V8⟩
 have kq:=V8.zY (L' := [_,_,_,_,_,_]) [0,2,1,3,4,5] V
 have wJ:St 96 (λ_=>False) W a22 eI _ _:=⟨kq.fr,(Sh.close (B:=jU (.own 32) 33 v22 [(⟨KC,[(⟨9,0,0,0⟩:Ins)]⟩:Ls Ins),(⟨HC,[(⟨8,0,0,0⟩:Ins)]⟩:Ls Ins)]) kq.sh).K4 VU⟩
 clear kq
 clear wV
 refine gG wJ<|xb (λ_ _ h_=>qF (n:=1) (cs:= [.int .i64 0]) ([0]:List Int) h_ zt zj V V V zf V zb V (λq hq w h=>Flat.inner _ _) (λq hq b hb=>(Flat.on _ _ hb).elim) V V) V λv25=>zn (oV (xW (cs:= [v22,v25,.int .i64 0,.int .i64 1]) V V (λw h=>by obtain ⟨A27,n27,c27,(e27:v25=_)⟩:=((h.own 0 V)).form;rw [e27];obtain ⟨A26,n26,c26,(Pp:v22=_)⟩:=((h.deep 1 V)).form;rw [Pp];kernel_rfl)) V<|.nl)<|λmg lW w8=>?_;clear wJ
 refine zL (zD w8 bA V V V V V (sR (⟨v22,[(⟨KC,[(⟨9,0,0,0⟩:Ins)]⟩:Ls Ins),(⟨HC,[(⟨8,0,0,0⟩:Ins)]⟩:Ls Ins)]⟩:Ls (Ls Ins)) (⟨v25,[0]⟩:Ls Int) _ (w8.sh.deep 1 V) (w8.sh.own 0 V) V V)) (zg V _) ?_
 rintro ec ak ⟨_,⟨nz,rfl,Ig,Yt⟩,Vt⟩
 have Qp:=(⟨Vt,w8.sh.call Yt (by intro A hA b hb;simp only [z6,qd,or_false] at hA;first|(subst hA;exact Flat.qh hb)|(rcases hA with rfl|rfl<;>first|exact (hb:False).elim|exact Flat.qh hb|exact .inl (hb:_)))⟩:St 96 (λ_=>False) W ec ak _ _)
 clear Vt Yt
 clear w8
 refine gG Qp<|zn (oM 1 V<|kK V<|kK V<|.nl)<|Q2 yR V λb31=>zn (oM 1 V<|.nl)<|YK 0 yR V V V<|nK gu<|gK λ_ Ur=>sK λ_ BA=>y4 (aO 1 V) λIj=>zn (qB xU V<|qw 0 kD V V<|ue 0 0 V<|oM 1 V<|oG zf (zG V V) V<|oG zf (Zc (s:=nz) (n:=nz.l.length) UP V V (λw h=>(h.own 1 V)) V) V<|oG zf (RT (p:=nz.l.length) (q:=1) V V V) V<|Zx zf V<|.nl)<|nK BA<|Q1 V (decide_eq_false za)<|gS<|hK Ur<|gK λ_ ia=>sK λ_ Dd=>zn (kt 4 qu V V<|.nl)<|λa39 pV QC=>zL (zD QC tc V V V V V (bV (code:=code) (words:=words) (zm:=zm) (ze:=ze) (QC.sh.at 5 V) (QC.sh.at 6 V))) (zg V _) ?_;clear Qp
 rintro a40 mr ⟨_,⟨rfl,Dk⟩,DC⟩
 have YO:St 96 (λ_=>False) W a40 mr _ _:=⟨DC,QC.sh.jv Dk⟩
 clear DC Dk
 clear QC
 refine gG YO<|nK Dd<|gF [1,4,32] V<|Q1 V hv<|gS<|hK ia<|sK λ_ hU=>zn (kt 4 qu V V<|.nl)<|λPQ MD J2=>zL (zD J2 L0 V V V V V (W6 (code:=code) (words:=words) (zm:=zm) (ze:=ze) (J2.sh.at 5 V) (J2.sh.at 6 V))) (zg V _) ?_;clear YO
 rintro a44 tu ⟨_,⟨rfl,Kh⟩,DB⟩
 have Rj:St 96 (λ_=>False) W a44 tu _ _:=⟨DB,J2.sh.jv Kh⟩
 clear DB Kh
 clear J2
 refine gG Rj<|Q2 yR V λb45=>YK 0 yR V V V<|nK hU<|gK λ_ EL=>sG (qB xU V<|qw 0 kD V V<|QW _ _ V<|.nl)<|BJ V (decide_eq_true hz)<|sG (oM 1 V<|.nl)<|gR<|uT<|λa50 w50 Ri=>zu (fn:=Tryz.f12) (t:=2) V Ri V<|⟨?_,(Ri.sh.zY [] V)⟩;clear Rj
 rfl
theorem tX (code:Ls (Ls Ins))(words:Ls Int)(Lk R:Nat)(W:World)(qY:code.At W)(yo:words.At W)(hv:UM (code.l.map (·.l)) words.l=false)(zR:yJ (ya code words Lk R))(hR:pH (ya code words Lk R))(ox:yJ (qz (ya code words Lk R))):
    zP Tryz.prog 12 [.agg #[code.v,words.v,.int .i64 ((Lk:Nat):Int),.int .i64 ((R:Nat):Int)]] W (λv w' =>v= .bool true/\qM W w' []):=by
 have hz:yC (yH code words ((Lk:Nat):Int) ((R:Nat):Int))=⟨0,0,0⟩:=Yg zR
 refine gen Tryz.func12 Tryz.ntmps12 (qM.Jo qY yo:Sh (λ_=>False) W W [.at_ code,.at_ words]) V λjP z7=>gG z7<|sK λ_ kz=>XV V V λxX=>zn (oM 1 V<|.nl)<|nK kz<|sK λ_ gu=>zn (oV (q8 (cs:= [.int .i64 9,.int .i64 0,.int .i64 0,.int .i64 0]) V V zb) V<|.nl)<|xb (λ_ _ h_=>qF (n:=1) (cs:= [.int .i64 9,.int .i64 0,.int .i64 0,.int .i64 0]) ([(⟨9,0,0,0⟩:Ins)]:List Ins) h_ yZ qG V V V zf V zb V (λq hq w h=>Flat.inner _ _) (λq hq b hb=>(Flat.on _ _ hb).elim) V V) V λKC=>zn (oV (q8 (cs:= [.int .i64 8,.int .i64 0,.int .i64 0,.int .i64 0]) V V zb) V<|.nl)<|xb (λ_ _ h_=>qF (n:=1) (cs:= [.int .i64 8,.int .i64 0,.int .i64 0,.int .i64 0]) ([(⟨8,0,0,0⟩:Ins)]:List Ins) h_ yZ qG V V V zf V zb V (λq hq w h=>Flat.inner _ _) (λq hq b hb=>(Flat.on _ _ hb).elim) V V) V λHC=>λa20 mw wV=>zL (qF (n:=2) (cs:= [KC,HC]) ([⟨KC⟩,⟨HC⟩]:List RV) wV vp jN V V V zf V (by obtain ⟨A21,n21,c21,(e21:KC=_)⟩:=((wV.sh.own 1 V)).form;rw [e21];obtain ⟨A19,n19,c19,(e19:HC=_)⟩:=((wV.sh.own 0 V)).form;rw [e19];kernel_rfl) V (λ_ _ _ _=>trivial) (λq hq b hb=>(Flat.on _ _ hb).elim) V V) (zg V _) ?_;clear z7
 rintro a22 eI ⟨v22,V8⟩
 have kq:=V8.zY (L' := [_,_,_,_,_,_]) [0,2,1,3,4,5] V
 have wJ:St 96 (λ_=>False) W a22 eI _ _:=⟨kq.fr,(Sh.close (B:=jU (.own 32) 33 v22 [(⟨KC,[(⟨9,0,0,0⟩:Ins)]⟩:Ls Ins),(⟨HC,[(⟨8,0,0,0⟩:Ins)]⟩:Ls Ins)]) kq.sh).K4 VU⟩
 clear kq
 clear wV
 refine gG wJ<|xb (λ_ _ h_=>qF (n:=1) (cs:= [.int .i64 0]) ([0]:List Int) h_ zt zj V V V zf V zb V (λq hq w h=>Flat.inner _ _) (λq hq b hb=>(Flat.on _ _ hb).elim) V V) V λv25=>zn (oV (xW (cs:= [v22,v25,.int .i64 0,.int .i64 1]) V V (λw h=>by obtain ⟨A27,n27,c27,(e27:v25=_)⟩:=((h.own 0 V)).form;rw [e27];obtain ⟨A26,n26,c26,(Pp:v22=_)⟩:=((h.deep 1 V)).form;rw [Pp];kernel_rfl)) V<|.nl)<|λmg lW w8=>?_;clear wJ
 refine zL (zD w8 bA V V V V V (sR (⟨v22,[(⟨KC,[(⟨9,0,0,0⟩:Ins)]⟩:Ls Ins),(⟨HC,[(⟨8,0,0,0⟩:Ins)]⟩:Ls Ins)]⟩:Ls (Ls Ins)) (⟨v25,[0]⟩:Ls Int) _ (w8.sh.deep 1 V) (w8.sh.own 0 V) V V)) (zg V _) ?_
 rintro ec ak ⟨_,⟨nz,rfl,Ig,Yt⟩,Vt⟩
 have Qp:=(⟨Vt,w8.sh.call Yt (by intro A hA b hb;simp only [z6,qd,or_false] at hA;first|(subst hA;exact Flat.qh hb)|(rcases hA with rfl|rfl<;>first|exact (hb:False).elim|exact Flat.qh hb|exact .inl (hb:_)))⟩:St 96 (λ_=>False) W ec ak _ _)
 clear Vt Yt
 clear w8
 refine gG Qp<|zn (oM 1 V<|kK V<|kK V<|.nl)<|Q2 yR V λb31=>zn (oM 1 V<|.nl)<|YK 0 yR V V V<|nK gu<|gK λ_ Ur=>sK λ_ BA=>y4 (aO 1 V) λIj=>zn (qB xU V<|qw 0 kD V V<|ue 0 0 V<|oM 1 V<|oG zf (zG V V) V<|oG zf (Zc (s:=nz) (n:=nz.l.length) UP V V (λw h=>(h.own 1 V)) V) V<|oG zf (RT (p:=nz.l.length) (q:=1) V V V) V<|Zx zf V<|.nl)<|nK BA<|Q1 V (decide_eq_false za)<|gS<|hK Ur<|gK λ_ ia=>sK λ_ Dd=>zn (kt 4 qu V V<|.nl)<|λa39 pV QC=>zL (zD QC tc V V V V V (bV (code:=code) (words:=words) (zm:=((Lk:Nat):Int)) (ze:=((R:Nat):Int)) (QC.sh.at 5 V) (QC.sh.at 6 V))) (zg V _) ?_;clear Qp
 rintro a40 mr ⟨_,⟨rfl,Dk⟩,DC⟩
 have YO:St 96 (λ_=>False) W a40 mr _ _:=⟨DC,QC.sh.jv Dk⟩
 clear DC Dk
 clear QC
 refine gG YO<|nK Dd<|gF [1,4,32] V<|Q1 V hv<|gS<|hK ia<|sK λ_ hU=>zn (kt 4 qu V V<|.nl)<|λPQ MD J2=>zL (zD J2 L0 V V V V V (W6 (code:=code) (words:=words) (zm:=((Lk:Nat):Int)) (ze:=((R:Nat):Int)) (J2.sh.at 5 V) (J2.sh.at 6 V))) (zg V _) ?_;clear YO
 rintro a44 tu ⟨_,⟨rfl,Kh⟩,DB⟩
 have Rj:St 96 (λ_=>False) W a44 tu _ _:=⟨DB,J2.sh.jv Kh⟩
 clear DB Kh
 clear J2
 refine gG Rj<|Q2 yR V λb45=>YK 0 yR V V V<|nK hU<|gK λ_ EL=>sG (qB xU V<|qw 0 kD V V<|QW _ _ V<|.nl)<|Q1 V (by rw [hz];rfl)<|gS<|hK EL<|sK λ_ EK=>zn (kt 5 qu V V<|.nl)<|λa51 MC YZ=>zL (zD YZ zap V V V V V (r4 code words Lk R _ (YZ.sh.at 6 V) (YZ.sh.at 7 V) zR)) (zg V _) ?_;clear Rj
 rintro MV MB ⟨_,⟨g52,zsD,zn3,zoE,zpm,zsX,oW,rfl,zkr,XI,zj4,F5,Fa⟩,IK⟩
 have zhg:=YZ.sh.J6.size
 have G0:=(⟨IK,YZ.sh.call Fa (by intro A hA b hb;simp only [z6,qd,or_false] at hA;rcases hA with rfl|rfl;exact (hb:False).elim;exact .inl (by obtain ⟨i9,Yv,YJ⟩:=hb;exact F5 _ (qb _ _ Yv) b YJ))⟩:St 96 (λ_=>False) W MV MB _ _)
 clear IK Fa
 clear YZ
 refine gG G0<|zn (oM 1 V<|.nl)<|nK EK<|gK λ_ MI=>sG (oM 1 V<|yb 0 Jl w5 V V<|.nl)<|?_;clear G0
 refine Xl V (λc8=>?_) λc8=>?_
 ·skip
  refine sG (oM 1 V<|.nl)<|gR<|uT<|λa57 w57 DK=>zu (fn:=Tryz.f12) (t:=2) V DK V<|⟨?_,(DK.sh.zY [] V)⟩
  rfl
 refine gS<|hK MI<|sK λ_ k58=>zn (kt 7 qu V V<|.nl)<|λa60 w60 HQ=>zL (zD HQ bA V V V V V (oS code words Lk R _ (HQ.sh.at 8 V) (HQ.sh.at 9 V) zR hR)) (zg V _) ?_
 rintro a61 P4 ⟨_,⟨l61,zbk,rfl,IF,il⟩,IJ⟩
 have me:=(⟨IJ,HQ.sh.call il (by intro A hA b hb;simp only [z6,qd,or_false] at hA;first|(subst hA;exact Flat.qh hb)|(rcases hA with rfl|rfl<;>first|exact (hb:False).elim|exact Flat.qh hb|exact .inl (hb:_)))⟩:St 96 (λ_=>False) W a61 P4 _ _)
 clear IJ il
 clear HQ
 refine gG me<|zn (oM 1 V<|kK V<|kK V<|oM 1 V<|.nl)<|YK 4 yR V V V<|nK k58<|sK λ_ Oj=>zn (kt 8 qu V V<|.nl)<|λa65 w65 Uz=>zL (zD Uz WR V V V V V (aC code words Lk R _ (Uz.sh.at 9 V) (Uz.sh.at 10 V) zR hR)) (zg V _) ?_;clear me
 rintro a66 M7 ⟨_,⟨u66,C9,rfl,iR,ik⟩,iT⟩
 have B8:=(⟨iT,Uz.sh.call ik (by intro A hA b hb;obtain rfl:=List.mem_singleton.1 hA;obtain ⟨i9,Yv,YJ⟩:=hb;exact .inl ((iR.nw _ (qb _ _ Yv) b YJ).resolve_left id))⟩:St 96 (λ_=>False) W a66 M7 _ _)
 have iS:=iR.up (K' :=λ_=>False) (W' :=W) (λb hb=>hb.imp id (λh9=>vZ Uz.sh.J6.size h9))
 clear iT ik
 clear Uz
 refine gG B8<|zn (oM 1 V<|kK V<|kK V<|.nl)<|Q2 yR V λb67=>zn (oM 1 V<|.nl)<|YK 0 yR V V V<|nK Oj<|gF [1,3,4,6,7,8] V<|gK λ_ sa=>sK λ_ Oi=>zn (qB xU V<|qw 6 kD V V<|yK _ _ V<|oM 1 V<|.nl)<|?_;clear B8
 rcases G3 ((if zbk=true then (0:Int) else 10)=0) with ⟨Kl,zcx⟩|⟨Kl,zcx⟩
 ·skip
  refine zn (oG Kl (zT (r:=0) xU V V V) V<|oG Kl (xV (i:=0) kD V V V V) V<|oG Kl (kJ (p:=(if C9=true then (0:Int) else 10)) (q:=0) V V V) V<|QV Kl V<|oM 1 V<|.nl)<|?_
  rcases G3 ((if C9=true then (0:Int) else 10)=0) with ⟨kN,nY⟩|⟨kN,nY⟩
  ·skip
   refine y4 (aO 2 V) λzra=>zn (oG kN (zG V V) V<|oG kN (Zc (s:=l61) (n:=l61.l.length) UP V V (λw h=>(h.own 2 V)) V) V<|oG kN (ck (p:=l61.l.length) (q:=0) V V V) V<|QV kN V<|.nl)<|nK Oi<|gcd V (λzdr zcw=>?_) λzdr zcw=>?_
   ·skip
    have Gl:=bg IF (UF.symm.trans zc) za
    refine sK λ_ k75=>zn (oM 1 V<|yb 3 wW ZD V V<|oM 1 V<|.nl)<|gP (λ_ _ h_=>gQ h_ bz V (VQ oW u66 _ (h_.sh.own 4 V) (h_.sh.own 1 V))) V<|zn (oM 1 V<|.nl)<|nK k75<|sG (oM 1 V<|rM V<|.nl)<|gF [1,6,8,74] V<|Q1 V (by rw [decide_eq_true (gn (XI zc).1 (iS.QZ (UF.symm.trans zc)).2.1 (λo=>((XI zc).2 o).trans ((DQ zR Gl o).trans ((iS.QZ (UF.symm.trans zc)).2.2.1 o).symm)))];rfl)<|gS<|hK sa<|sK λ_ k78=>zn (kt 10 qu V V<|.nl)<|λa80 w80 aZ=>zL (zD aZ Hm V V V V V (gH code words ((Lk:Nat):Int) ((R:Nat):Int) _ (aZ.sh.at 11 V) (aZ.sh.at 12 V) zR)) (zg V _) ?_
    rintro a81 w81 ⟨_,⟨o81,rfl,oi,E9⟩,II⟩
    have AH:=(⟨II,aZ.sh.call E9 (by intro A hA b hb;simp only [z6,qd,or_false] at hA;first|(subst hA;exact Flat.qh hb)|(rcases hA with rfl|rfl<;>first|exact (hb:False).elim|exact Flat.qh hb|exact .inl (hb:_)))⟩:St 96 (λ_=>False) W a81 w81 _ _)
    clear II E9
    clear aZ
    refine gG AH<|zn (oM 1 V<|.nl)<|nK k78<|sK λ_ k82=>zn (kt 11 qu V V<|oM 1 V<|.nl)<|λa84 w84 oN=>zL (zD oN Hl V V V V V (YU code words ((Lk:Nat):Int) ((R:Nat):Int) o81 _ (oN.sh.at 12 V) (oN.sh.at 13 V) zR (oN.sh.deep 0 V) (vH oi).1 (vH oi).2)) (zg V _) ?_;clear AH
    rintro a85 w85 ⟨_,⟨s7,tD,rfl,zcl,zbZ,E8⟩,IH⟩
    have iA:ya s7 tD Lk R=qz (ya code words Lk R):=Y1 oi zcl zbZ
    have I9:=(⟨IH,oN.sh.call E8 (by intro A hA b hb;simp only [z6,qd,or_false] at hA;first|(subst hA;exact Flat.qh hb)|(rcases hA with rfl|rfl<;>first|exact (hb:False).elim|exact Flat.qh hb|exact .inl (hb:_)))⟩:St 96 (λ_=>False) W a85 w85 _ _)
    clear IH E8
    clear oN
    refine gG I9<|Q2 qu V λb86=>gE (λ_ _ h_=>j3 (i:=0) (vs:= [s7.v,tD.v,.int .i64 ((Lk:Nat):Int),.int .i64 ((R:Nat):Int)]) (YR:= [s7.v,tD.v,.int .i64 ((Lk:Nat):Int),.int .i64 ((R:Nat):Int)]) h_ qu V V V V V V V (zr ((h_.sh.deep 1 V)).one (zr ((h_.sh.own 2 V)).one (zr V (zr V qx)))) (y5 V) V) V<|nK k82<|sK λ_ k88=>zn (kt 0 qu V V<|.nl)<|λa90 w90 mc=>zL (zD mc WR V V V V V (aC s7 tD Lk R _ (mc.sh.deep 1 V) (mc.sh.own 2 V) (iA▸ox) (iA▸Gw hR (Jj ox) zR))) (zg V _) ?_;clear I9
    rintro a91 w91 ⟨_,⟨u91,zoa,rfl,Tm,E7⟩,zjC⟩
    have h91:=(⟨zjC,mc.sh.call E7 (by intro A hA b hb;obtain rfl:=List.mem_singleton.1 hA;obtain ⟨i9,Yv,YJ⟩:=hb;exact .inl ((Tm.nw _ (qb _ _ Yv) b YJ).resolve_left id))⟩:St 96 (λ_=>False) W a91 w91 _ _)
    have Tn:=Tm.up (K' :=λ_=>False) (W' :=W) (λb hb=>hb.imp id (λh9=>vZ mc.sh.J6.size h9))
    clear zjC E7
    clear mc
    refine gG h91<|zn (oM 1 V<|kK V<|kK V<|oM 1 V<|.nl)<|YK 5 yR V V V<|nK k88<|sK λ_ k93=>zn (qB xU V<|qw 5 kD V V<|QW _ _ V<|oM 1 V<|.nl)<|?_;clear h91
    rcases G3 ((if zoa=true then (0:Int) else 10)≠0) with ⟨HO,zct⟩|⟨HO,zct⟩
    ·skip
     refine zn (Zy 6 HO V V<|QV HO V<|oM 1 V<|.nl)<|nK k93<|gF [2] V<|gR<|λa95 w95 h95=>zu (fn:=Tryz.f12) (t:=2) V h95 V<|⟨?_,(h95.sh.zY [] V)⟩
     rfl
    refine zn (oG HO (zG V V) V<|oG HO (jC V V) V<|oG HO (zT (r:=4) wW V V V) V<|oG HO (xV (i:=8) ZD V V V V) V<|oG HO (zG V V) V<|.nl)<|λa96 w96 sE=>zL (zD sE bz V V V V V (VQ oW u91 _ (sE.sh.own 9 V) (sE.sh.own 0 V))) (jx sE.fr V V V V HO) ?_
    rintro a97 w97 ⟨_,⟨rfl,E6⟩,IG⟩
    have uU:St 96 (λ_=>False) W a97 w97 _ _:=⟨IG,sE.sh.jv E6⟩
    clear IG E6
    clear sE
    refine gG uU<|zn (Zx HO V<|oM 1 V<|.nl)<|nK k93<|gF [2] V<|gR<|λa98 w98 MR=>zu (fn:=Tryz.f12) (t:=2) V MR V<|⟨?_,(MR.sh.zY [] V)⟩;clear uU
    have Rg:∀o,jq (ya code words Lk R) 0 o↔jq (ya s7 tD Lk R) 2 o:=λo=>by rw [iA];exact Jk zR ox o
    exact congrArg _ (decide_eq_true (gn (XI zc).1 (Tn.QZ (VC zc)).2.1 (λo=>((XI zc).2 o).trans ((Rg o).trans ((Tn.QZ (VC zc)).2.2.1 o).symm))))
   refine gS<|hK sa<|sK λ_ k99=>zn (kt 10 qu V V<|.nl)<|λzma zf2 DO=>zL (zD DO Hm V V V V V (gH code words ((Lk:Nat):Int) ((R:Nat):Int) _ (DO.sh.at 11 V) (DO.sh.at 12 V) zR)) (zg V _) ?_
   rintro zeR zaG ⟨_,⟨zoi,rfl,F1,S1⟩,TI⟩
   have dq:=(⟨TI,DO.sh.call S1 (by intro A hA b hb;simp only [z6,qd,or_false] at hA;first|(subst hA;exact Flat.qh hb)|(rcases hA with rfl|rfl<;>first|exact (hb:False).elim|exact Flat.qh hb|exact .inl (hb:_)))⟩:St 96 (λ_=>False) W zeR zaG _ _)
   clear TI S1
   clear DO
   refine gG dq<|zn (oM 1 V<|.nl)<|nK k99<|sK λ_ Om=>zn (kt 11 qu V V<|oM 1 V<|.nl)<|λa105 Ng J4=>zL (zD J4 Hl V V V V V (YU code words ((Lk:Nat):Int) ((R:Nat):Int) zoi _ (J4.sh.at 12 V) (J4.sh.at 13 V) zR (J4.sh.deep 0 V) (vH F1).1 (vH F1).2)) (zg V _) ?_;clear dq
   rintro pA my ⟨_,⟨LV,Ca,rfl,zhW,zhe,ix⟩,la⟩
   have nW:ya LV Ca Lk R=qz (ya code words Lk R):=Y1 F1 zhW zhe
   have YQ:=(⟨la,J4.sh.call ix (by intro A hA b hb;simp only [z6,qd,or_false] at hA;first|(subst hA;exact Flat.qh hb)|(rcases hA with rfl|rfl<;>first|exact (hb:False).elim|exact Flat.qh hb|exact .inl (hb:_)))⟩:St 96 (λ_=>False) W pA my _ _)
   clear la ix
   clear J4
   refine gG YQ<|Q2 qu V λzyP=>gE (λ_ _ h_=>j3 (i:=0) (vs:= [LV.v,Ca.v,.int .i64 ((Lk:Nat):Int),.int .i64 ((R:Nat):Int)]) (YR:= [LV.v,Ca.v,.int .i64 ((Lk:Nat):Int),.int .i64 ((R:Nat):Int)]) h_ qu V V V V V V V (zr ((h_.sh.deep 1 V)).one (zr ((h_.sh.own 2 V)).one (zr V (zr V qx)))) (y5 V) V) V<|nK Om<|gF [6,8,11] V<|sK λ_ zbF=>zn (kt 0 qu V V<|.nl)<|λzl8 zfZ J3=>zL (zD J3 WR V V V V V (aC LV Ca Lk R _ (J3.sh.deep 1 V) (J3.sh.own 2 V) (nW▸ox) (nW▸Gw hR (Jj ox) zR))) (zg V _) ?_;clear YQ
   rintro Mu A3 ⟨_,⟨znX,zgu,rfl,Iz,iw⟩,iZ⟩
   have UC:=(⟨iZ,J3.sh.call iw (by intro A hA b hb;obtain rfl:=List.mem_singleton.1 hA;obtain ⟨i9,Yv,YJ⟩:=hb;exact .inl ((Iz.nw _ (qb _ _ Yv) b YJ).resolve_left id))⟩:St 96 (λ_=>False) W Mu A3 _ _)
   have IC:=Iz.up (K' :=λ_=>False) (W' :=W) (λb hb=>hb.imp id (λh9=>vZ J3.sh.J6.size h9))
   clear iZ iw
   clear J3
   refine gG UC<|zn (oM 1 V<|kK V<|kK V<|oM 1 V<|.nl)<|YK 5 yR V V V<|nK zbF<|sK λ_ uy=>zn (qB xU V<|qw 5 kD V V<|QW _ _ V<|oM 1 V<|.nl)<|?_;clear UC
   rcases G3 ((if zgu=true then (0:Int) else 10)≠0) with ⟨QN,FJ⟩|⟨QN,FJ⟩
   ·skip
    refine zn (Zy 6 QN V V<|QV QN V<|oM 1 V<|.nl)<|nK uy<|gR<|λa116 zfX Gt=>zu (fn:=Tryz.f12) (t:=2) V Gt V<|⟨?_,(Gt.sh.zY [] V)⟩
    rfl
   refine zn (oG QN (zG V V) V<|oG QN (jC V V) V<|oG QN (zT (r:=4) wW V V V) V<|oG QN (xV (i:=8) ZD V V V V) V<|oG QN (zG V V) V<|.nl)<|λa117 Nf YP=>zL (zD YP bz V V V V V (VQ oW znX _ (YP.sh.own 9 V) (YP.sh.own 0 V))) (jx YP.fr V V V V QN) ?_
   rintro Mt tz ⟨_,⟨rfl,U2⟩,iX⟩
   have UB:St 96 (λ_=>False) W Mt tz _ _:=⟨iX,YP.sh.jv U2⟩
   clear iX U2
   clear YP
   refine gG UB<|zn (Zx QN V<|oM 1 V<|.nl)<|nK uy<|gR<|λa119 zfW ae=>zu (fn:=Tryz.f12) (t:=2) V ae V<|⟨?_,(ae.sh.zY [] V)⟩;clear UB
   have Rg:∀o,jq (ya code words Lk R) 0 o↔jq (ya LV Ca Lk R) 2 o:=λo=>by rw [nW];exact Jk zR ox o
   exact congrArg _ (decide_eq_true (gn (XI zc).1 (IC.QZ (VC zc)).2.1 (λo=>((XI zc).2 o).trans ((Rg o).trans ((IC.QZ (VC zc)).2.2.1 o).symm))))
  refine zn (Zy 3 kN V V<|Zx kN V<|.nl)<|nK Oi<|Q1 V V<|gS<|hK sa<|sK λ_ zbE=>zn (kt 10 qu V V<|.nl)<|λPY Nd Gs=>zL (zD Gs Hm V V V V V (gH code words ((Lk:Nat):Int) ((R:Nat):Int) _ (Gs.sh.at 11 V) (Gs.sh.at 12 V) zR)) (zg V _) ?_
  rintro zeQ zaF ⟨_,⟨zog,rfl,FY,SX⟩,TB⟩
  have oO:=(⟨TB,Gs.sh.call SX (by intro A hA b hb;simp only [z6,qd,or_false] at hA;first|(subst hA;exact Flat.qh hb)|(rcases hA with rfl|rfl<;>first|exact (hb:False).elim|exact Flat.qh hb|exact .inl (hb:_)))⟩:St 96 (λ_=>False) W zeQ zaF _ _)
  clear TB SX
  clear Gs
  refine gG oO<|zn (oM 1 V<|.nl)<|nK zbE<|sK λ_ zoZ=>zn (kt 11 qu V V<|oM 1 V<|.nl)<|λzl4 zfT Ww=>zL (zD Ww Hl V V V V V (YU code words ((Lk:Nat):Int) ((R:Nat):Int) zog _ (Ww.sh.at 12 V) (Ww.sh.at 13 V) zR (Ww.sh.deep 0 V) (vH FY).1 (vH FY).2)) (zg V _) ?_;clear oO
  rintro a127 znE ⟨_,⟨Ai,A8,rfl,zhU,zhc,SV⟩,TA⟩
  have nV:ya Ai A8 Lk R=qz (ya code words Lk R):=Y1 FY zhU zhc
  have zlj:=(⟨TA,Ww.sh.call SV (by intro A hA b hb;simp only [z6,qd,or_false] at hA;first|(subst hA;exact Flat.qh hb)|(rcases hA with rfl|rfl<;>first|exact (hb:False).elim|exact Flat.qh hb|exact .inl (hb:_)))⟩:St 96 (λ_=>False) W a127 znE _ _)
  clear TA SV
  clear Ww
  refine gG zlj<|Q2 qu V λzyN=>gE (λ_ _ h_=>j3 (i:=0) (vs:= [Ai.v,A8.v,.int .i64 ((Lk:Nat):Int),.int .i64 ((R:Nat):Int)]) (YR:= [Ai.v,A8.v,.int .i64 ((Lk:Nat):Int),.int .i64 ((R:Nat):Int)]) h_ qu V V V V V V V (zr ((h_.sh.deep 1 V)).one (zr ((h_.sh.own 2 V)).one (zr V (zr V qx)))) (y5 V) V) V<|nK zoZ<|gF [6,8,11] V<|sK λ_ zbC=>zn (kt 0 qu V V<|.nl)<|λPV Nc Xk=>zL (zD Xk WR V V V V V (aC Ai A8 Lk R _ (Xk.sh.deep 1 V) (Xk.sh.own 2 V) (nV▸ox) (nV▸Gw hR (Jj ox) zR))) (zg V _) ?_;clear zlj
  rintro PU Nb ⟨_,⟨bY,zgt,rfl,Iy,iu⟩,iV⟩
  have DM:=(⟨iV,Xk.sh.call iu (by intro A hA b hb;obtain rfl:=List.mem_singleton.1 hA;obtain ⟨i9,Yv,YJ⟩:=hb;exact .inl ((Iy.nw _ (qb _ _ Yv) b YJ).resolve_left id))⟩:St 96 (λ_=>False) W PU Nb _ _)
  have IB:=Iy.up (K' :=λ_=>False) (W' :=W) (λb hb=>hb.imp id (λh9=>vZ Xk.sh.J6.size h9))
  clear iV iu
  clear Xk
  refine gG DM<|zn (oM 1 V<|kK V<|kK V<|oM 1 V<|.nl)<|YK 5 yR V V V<|nK zbC<|sK λ_ zgP=>zn (qB xU V<|qw 5 kD V V<|QW _ _ V<|oM 1 V<|.nl)<|?_;clear DM
  rcases G3 ((if zgt=true then (0:Int) else 10)≠0) with ⟨WL,zic⟩|⟨WL,zic⟩
  ·skip
   refine zn (Zy 6 WL V V<|QV WL V<|oM 1 V<|.nl)<|nK zgP<|gR<|λzeO zaD UA=>zu (fn:=Tryz.f12) (t:=2) V UA V<|⟨?_,(UA.sh.zY [] V)⟩
   rfl
  refine zn (oG WL (zG V V) V<|oG WL (jC V V) V<|oG WL (zT (r:=4) wW V V V) V<|oG WL (xV (i:=8) ZD V V V V) V<|oG WL (zG V V) V<|.nl)<|λa138 zfQ dm=>zL (zD dm bz V V V V V (VQ oW bY _ (dm.sh.own 9 V) (dm.sh.own 0 V))) (jx dm.fr V V V V WL) ?_
  rintro a139 znA ⟨_,⟨rfl,SQ⟩,Tv⟩
  have zli:St 96 (λ_=>False) W a139 znA _ _:=⟨Tv,dm.sh.jv SQ⟩
  clear Tv SQ
  clear dm
  refine gG zli<|zn (Zx WL V<|oM 1 V<|.nl)<|nK zgP<|gR<|λzs8 znz Lb=>zu (fn:=Tryz.f12) (t:=2) V Lb V<|⟨?_,(Lb.sh.zY [] V)⟩;clear zli
  have Rg:∀o,jq (ya code words Lk R) 0 o↔jq (ya Ai A8 Lk R) 2 o:=λo=>by rw [nV];exact Jk zR ox o
  exact congrArg _ (decide_eq_true (gn (XI zc).1 (IB.QZ (VC zc)).2.1 (λo=>((XI zc).2 o).trans ((Rg o).trans ((IB.QZ (VC zc)).2.2.1 o).symm))))
 refine zn (Zy 3 Kl V V<|Zx Kl V<|oM 1 V<|Zy 3 V V V<|Zx V V<|.nl)<|nK Oi<|Q1 V V<|gS<|hK sa<|sK λ_ zoU=>zn (kt 10 qu V V<|.nl)<|λa143 zny lu=>zL (zD lu Hm V V V V V (gH code words ((Lk:Nat):Int) ((R:Nat):Int) _ (lu.sh.at 11 V) (lu.sh.at 12 V) zR)) (zg V _) ?_
 rintro zl1 zfP ⟨_,⟨zoe,rfl,FW,SP⟩,Tu⟩
 have La:=(⟨Tu,lu.sh.call SP (by intro A hA b hb;simp only [z6,qd,or_false] at hA;first|(subst hA;exact Flat.qh hb)|(rcases hA with rfl|rfl<;>first|exact (hb:False).elim|exact Flat.qh hb|exact .inl (hb:_)))⟩:St 96 (λ_=>False) W zl1 zfP _ _)
 clear Tu SP
 clear lu
 refine gG La<|zn (oM 1 V<|.nl)<|nK zoU<|sK λ_ zoT=>zn (kt 11 qu V V<|oM 1 V<|.nl)<|λzy4 zvn uZ=>zL (zD uZ Hl V V V V V (YU code words ((Lk:Nat):Int) ((R:Nat):Int) zoe _ (uZ.sh.at 12 V) (uZ.sh.at 13 V) zR (uZ.sh.deep 0 V) (vH FW).1 (vH FW).2)) (zg V _) ?_;clear La
 rintro a148 znx ⟨_,⟨LU,A7,rfl,zhS,zha,SO⟩,Tt⟩
 have nU:ya LU A7 Lk R=qz (ya code words Lk R):=Y1 FW zhS zha
 have zlg:=(⟨Tt,uZ.sh.call SO (by intro A hA b hb;simp only [z6,qd,or_false] at hA;first|(subst hA;exact Flat.qh hb)|(rcases hA with rfl|rfl<;>first|exact (hb:False).elim|exact Flat.qh hb|exact .inl (hb:_)))⟩:St 96 (λ_=>False) W a148 znx _ _)
 clear Tt SO
 clear uZ
 refine gG zlg<|Q2 qu V λzyL=>gE (λ_ _ h_=>j3 (i:=0) (vs:= [LU.v,A7.v,.int .i64 ((Lk:Nat):Int),.int .i64 ((R:Nat):Int)]) (YR:= [LU.v,A7.v,.int .i64 ((Lk:Nat):Int),.int .i64 ((R:Nat):Int)]) h_ qu V V V V V V V (zr ((h_.sh.deep 1 V)).one (zr ((h_.sh.own 2 V)).one (zr V (zr V qx)))) (y5 V) V) V<|nK zoT<|gF [6,8,11] V<|sK λ_ zoS=>zn (kt 0 qu V V<|.nl)<|λzy2 zvl uY=>zL (zD uY WR V V V V V (aC LU A7 Lk R _ (uY.sh.deep 1 V) (uY.sh.own 2 V) (nU▸ox) (nU▸Gw hR (Jj ox) zR))) (zg V _) ?_;clear zlg
 rintro a154 znw ⟨_,⟨znW,zgs,rfl,Ix,SN⟩,Ts⟩
 have zle:=(⟨Ts,uY.sh.call SN (by intro A hA b hb;obtain rfl:=List.mem_singleton.1 hA;obtain ⟨i9,Yv,YJ⟩:=hb;exact .inl ((Ix.nw _ (qb _ _ Yv) b YJ).resolve_left id))⟩:St 96 (λ_=>False) W a154 znw _ _)
 have IA:=Ix.up (K' :=λ_=>False) (W' :=W) (λb hb=>hb.imp id (λh9=>vZ uY.sh.J6.size h9))
 clear Ts SN
 clear uY
 refine gG zle<|zn (oM 1 V<|kK V<|kK V<|oM 1 V<|.nl)<|YK 5 yR V V V<|nK zoS<|sK λ_ zgO=>zn (qB xU V<|qw 5 kD V V<|QW _ _ V<|oM 1 V<|.nl)<|?_;clear zle
 rcases G3 ((if zgs=true then (0:Int) else 10)≠0) with ⟨WK,zh7⟩|⟨WK,zh7⟩
 ·skip
  refine zn (Zy 6 WK V V<|QV WK V<|oM 1 V<|.nl)<|nK zgO<|gR<|λzy1 zvj zlc=>zu (fn:=Tryz.f12) (t:=2) V zlc V<|⟨?_,(zlc.sh.zY [] V)⟩
  rfl
 refine zn (oG WK (zG V V) V<|oG WK (jC V V) V<|oG WK (zT (r:=4) wW V V V) V<|oG WK (xV (i:=8) ZD V V V V) V<|oG WK (zG V V) V<|.nl)<|λa159 zvi uX=>zL (zD uX bz V V V V V (VQ oW znW _ (uX.sh.own 9 V) (uX.sh.own 0 V))) (jx uX.fr V V V V WK) ?_
 rintro a160 znv ⟨_,⟨rfl,SM⟩,Tr⟩
 have zlb:St 96 (λ_=>False) W a160 znv _ _:=⟨Tr,uX.sh.jv SM⟩
 clear Tr SM
 clear uX
 refine gG zlb<|zn (Zx WK V<|oM 1 V<|.nl)<|nK zgO<|gR<|λzy0 zvh zla=>zu (fn:=Tryz.f12) (t:=2) V zla V<|⟨?_,(zla.sh.zY [] V)⟩;clear zlb
 have Rg:∀o,jq (ya code words Lk R) 0 o↔jq (ya LU A7 Lk R) 2 o:=λo=>by rw [nU];exact Jk zR ox o
 exact congrArg _ (decide_eq_true (gn (XI zc).1 (IA.QZ (VC zc)).2.1 (λo=>((XI zc).2 o).trans ((Rg o).trans ((IA.QZ (VC zc)).2.2.1 o).symm))))
theorem tW (code:Ls (Ls Ins))(words:Ls Int)(Lk R:Nat)(W:World)(qY:code.At W)(yo:words.At W)(hv:UM (code.l.map (·.l)) words.l=false)(zR:yJ (ya code words Lk R))(hR:pH (ya code words Lk R))(Xq:¬yJ (qz (ya code words Lk R))):
    zP Tryz.prog 12 [.agg #[code.v,words.v,.int .i64 ((Lk:Nat):Int),.int .i64 ((R:Nat):Int)]] W (λv w' =>v= .bool true/\qM W w' []):=by
 have hz:yC (yH code words ((Lk:Nat):Int) ((R:Nat):Int))=⟨0,0,0⟩:=Yg zR
 refine gen Tryz.func12 Tryz.ntmps12 (qM.Jo qY yo:Sh (λ_=>False) W W [.at_ code,.at_ words]) V λjP z7=>gG z7<|sK λ_ kz=>XV V V λxX=>zn (oM 1 V<|.nl)<|nK kz<|sK λ_ gu=>zn (oV (q8 (cs:= [.int .i64 9,.int .i64 0,.int .i64 0,.int .i64 0]) V V zb) V<|.nl)<|xb (λ_ _ h_=>qF (n:=1) (cs:= [.int .i64 9,.int .i64 0,.int .i64 0,.int .i64 0]) ([(⟨9,0,0,0⟩:Ins)]:List Ins) h_ yZ qG V V V zf V zb V (λq hq w h=>Flat.inner _ _) (λq hq b hb=>(Flat.on _ _ hb).elim) V V) V λKC=>zn (oV (q8 (cs:= [.int .i64 8,.int .i64 0,.int .i64 0,.int .i64 0]) V V zb) V<|.nl)<|xb (λ_ _ h_=>qF (n:=1) (cs:= [.int .i64 8,.int .i64 0,.int .i64 0,.int .i64 0]) ([(⟨8,0,0,0⟩:Ins)]:List Ins) h_ yZ qG V V V zf V zb V (λq hq w h=>Flat.inner _ _) (λq hq b hb=>(Flat.on _ _ hb).elim) V V) V λHC=>λa20 mw wV=>zL (qF (n:=2) (cs:= [KC,HC]) ([⟨KC⟩,⟨HC⟩]:List RV) wV vp jN V V V zf V (by obtain ⟨A21,n21,c21,(e21:KC=_)⟩:=((wV.sh.own 1 V)).form;rw [e21];obtain ⟨A19,n19,c19,(e19:HC=_)⟩:=((wV.sh.own 0 V)).form;rw [e19];kernel_rfl) V (λ_ _ _ _=>trivial) (λq hq b hb=>(Flat.on _ _ hb).elim) V V) (zg V _) ?_;clear z7
 rintro a22 eI ⟨v22,V8⟩
 have kq:=V8.zY (L' := [_,_,_,_,_,_]) [0,2,1,3,4,5] V
 have wJ:St 96 (λ_=>False) W a22 eI _ _:=⟨kq.fr,(Sh.close (B:=jU (.own 32) 33 v22 [(⟨KC,[(⟨9,0,0,0⟩:Ins)]⟩:Ls Ins),(⟨HC,[(⟨8,0,0,0⟩:Ins)]⟩:Ls Ins)]) kq.sh).K4 VU⟩
 clear kq
 clear wV
 refine gG wJ<|xb (λ_ _ h_=>qF (n:=1) (cs:= [.int .i64 0]) ([0]:List Int) h_ zt zj V V V zf V zb V (λq hq w h=>Flat.inner _ _) (λq hq b hb=>(Flat.on _ _ hb).elim) V V) V λv25=>zn (oV (xW (cs:= [v22,v25,.int .i64 0,.int .i64 1]) V V (λw h=>by obtain ⟨A27,n27,c27,(e27:v25=_)⟩:=((h.own 0 V)).form;rw [e27];obtain ⟨A26,n26,c26,(Pp:v22=_)⟩:=((h.deep 1 V)).form;rw [Pp];kernel_rfl)) V<|.nl)<|λmg lW w8=>?_;clear wJ
 refine zL (zD w8 bA V V V V V (sR (⟨v22,[(⟨KC,[(⟨9,0,0,0⟩:Ins)]⟩:Ls Ins),(⟨HC,[(⟨8,0,0,0⟩:Ins)]⟩:Ls Ins)]⟩:Ls (Ls Ins)) (⟨v25,[0]⟩:Ls Int) _ (w8.sh.deep 1 V) (w8.sh.own 0 V) V V)) (zg V _) ?_
 rintro ec ak ⟨_,⟨nz,rfl,Ig,Yt⟩,Vt⟩
 have Qp:=(⟨Vt,w8.sh.call Yt (by intro A hA b hb;simp only [z6,qd,or_false] at hA;first|(subst hA;exact Flat.qh hb)|(rcases hA with rfl|rfl<;>first|exact (hb:False).elim|exact Flat.qh hb|exact .inl (hb:_)))⟩:St 96 (λ_=>False) W ec ak _ _)
 clear Vt Yt
 clear w8
 refine gG Qp<|zn (oM 1 V<|kK V<|kK V<|.nl)<|Q2 yR V λb31=>zn (oM 1 V<|.nl)<|YK 0 yR V V V<|nK gu<|gK λ_ Ur=>sK λ_ BA=>y4 (aO 1 V) λIj=>zn (qB xU V<|qw 0 kD V V<|ue 0 0 V<|oM 1 V<|oG zf (zG V V) V<|oG zf (Zc (s:=nz) (n:=nz.l.length) UP V V (λw h=>(h.own 1 V)) V) V<|oG zf (RT (p:=nz.l.length) (q:=1) V V V) V<|Zx zf V<|.nl)<|nK BA<|Q1 V (decide_eq_false za)<|gS<|hK Ur<|gK λ_ ia=>sK λ_ Dd=>zn (kt 4 qu V V<|.nl)<|λa39 pV QC=>zL (zD QC tc V V V V V (bV (code:=code) (words:=words) (zm:=((Lk:Nat):Int)) (ze:=((R:Nat):Int)) (QC.sh.at 5 V) (QC.sh.at 6 V))) (zg V _) ?_;clear Qp
 rintro a40 mr ⟨_,⟨rfl,Dk⟩,DC⟩
 have YO:St 96 (λ_=>False) W a40 mr _ _:=⟨DC,QC.sh.jv Dk⟩
 clear DC Dk
 clear QC
 refine gG YO<|nK Dd<|gF [1,4,32] V<|Q1 V hv<|gS<|hK ia<|sK λ_ hU=>zn (kt 4 qu V V<|.nl)<|λPQ MD J2=>zL (zD J2 L0 V V V V V (W6 (code:=code) (words:=words) (zm:=((Lk:Nat):Int)) (ze:=((R:Nat):Int)) (J2.sh.at 5 V) (J2.sh.at 6 V))) (zg V _) ?_;clear YO
 rintro a44 tu ⟨_,⟨rfl,Kh⟩,DB⟩
 have Rj:St 96 (λ_=>False) W a44 tu _ _:=⟨DB,J2.sh.jv Kh⟩
 clear DB Kh
 clear J2
 refine gG Rj<|Q2 yR V λb45=>YK 0 yR V V V<|nK hU<|gK λ_ EL=>sG (qB xU V<|qw 0 kD V V<|QW _ _ V<|.nl)<|Q1 V (by rw [hz];rfl)<|gS<|hK EL<|sK λ_ EK=>zn (kt 5 qu V V<|.nl)<|λa51 MC YZ=>zL (zD YZ zap V V V V V (r4 code words Lk R _ (YZ.sh.at 6 V) (YZ.sh.at 7 V) zR)) (zg V _) ?_;clear Rj
 rintro MV MB ⟨_,⟨g52,zsD,zn3,zoE,zpm,zsX,oW,rfl,zkr,XI,zj4,F5,Fa⟩,IK⟩
 have zhg:=YZ.sh.J6.size
 have G0:=(⟨IK,YZ.sh.call Fa (by intro A hA b hb;simp only [z6,qd,or_false] at hA;rcases hA with rfl|rfl;exact (hb:False).elim;exact .inl (by obtain ⟨i9,Yv,YJ⟩:=hb;exact F5 _ (qb _ _ Yv) b YJ))⟩:St 96 (λ_=>False) W MV MB _ _)
 clear IK Fa
 clear YZ
 refine gG G0<|zn (oM 1 V<|.nl)<|nK EK<|gK λ_ MI=>sG (oM 1 V<|yb 0 Jl w5 V V<|.nl)<|?_;clear G0
 refine Xl V (λc8=>?_) λc8=>?_
 ·skip
  refine sG (oM 1 V<|.nl)<|gR<|uT<|λa57 w57 DK=>zu (fn:=Tryz.f12) (t:=2) V DK V<|⟨?_,(DK.sh.zY [] V)⟩
  rfl
 refine gS<|hK MI<|sK λ_ k58=>zn (kt 7 qu V V<|.nl)<|λa60 w60 HQ=>zL (zD HQ bA V V V V V (oS code words Lk R _ (HQ.sh.at 8 V) (HQ.sh.at 9 V) zR hR)) (zg V _) ?_
 rintro a61 P4 ⟨_,⟨l61,zbk,rfl,IF,il⟩,IJ⟩
 have me:=(⟨IJ,HQ.sh.call il (by intro A hA b hb;simp only [z6,qd,or_false] at hA;first|(subst hA;exact Flat.qh hb)|(rcases hA with rfl|rfl<;>first|exact (hb:False).elim|exact Flat.qh hb|exact .inl (hb:_)))⟩:St 96 (λ_=>False) W a61 P4 _ _)
 clear IJ il
 clear HQ
 refine gG me<|zn (oM 1 V<|kK V<|kK V<|oM 1 V<|.nl)<|YK 4 yR V V V<|nK k58<|sK λ_ Oj=>zn (kt 8 qu V V<|.nl)<|λa65 w65 Uz=>zL (zD Uz WR V V V V V (aC code words Lk R _ (Uz.sh.at 9 V) (Uz.sh.at 10 V) zR hR)) (zg V _) ?_;clear me
 rintro a66 M7 ⟨_,⟨u66,C9,rfl,iR,ik⟩,iT⟩
 have B8:=(⟨iT,Uz.sh.call ik (by intro A hA b hb;obtain rfl:=List.mem_singleton.1 hA;obtain ⟨i9,Yv,YJ⟩:=hb;exact .inl ((iR.nw _ (qb _ _ Yv) b YJ).resolve_left id))⟩:St 96 (λ_=>False) W a66 M7 _ _)
 have iS:=iR.up (K' :=λ_=>False) (W' :=W) (λb hb=>hb.imp id (λh9=>vZ Uz.sh.J6.size h9))
 clear iT ik
 clear Uz
 refine gG B8<|zn (oM 1 V<|kK V<|kK V<|.nl)<|Q2 yR V λb67=>zn (oM 1 V<|.nl)<|YK 0 yR V V V<|nK Oj<|gF [1,3,4,6,7,8] V<|gK λ_ sa=>sK λ_ Oi=>zn (qB xU V<|qw 6 kD V V<|yK _ _ V<|oM 1 V<|.nl)<|?_;clear B8
 rcases G3 ((if zbk=true then (0:Int) else 10)=0) with ⟨Kl,zcx⟩|⟨Kl,zcx⟩
 ·skip
  refine zn (oG Kl (zT (r:=0) xU V V V) V<|oG Kl (xV (i:=0) kD V V V V) V<|oG Kl (kJ (p:=(if C9=true then (0:Int) else 10)) (q:=0) V V V) V<|QV Kl V<|oM 1 V<|.nl)<|?_
  rcases G3 ((if C9=true then (0:Int) else 10)=0) with ⟨kN,nY⟩|⟨kN,nY⟩
  ·skip
   refine y4 (aO 2 V) λzra=>zn (oG kN (zG V V) V<|oG kN (Zc (s:=l61) (n:=l61.l.length) UP V V (λw h=>(h.own 2 V)) V) V<|oG kN (ck (p:=l61.l.length) (q:=0) V V V) V<|QV kN V<|.nl)<|nK Oi<|gcd V (λzdr zcw=>?_) λzdr zcw=>?_
   ·skip
    have Gl:=bg IF (UF.symm.trans zc) za
    refine sK λ_ k75=>zn (oM 1 V<|yb 3 wW ZD V V<|oM 1 V<|.nl)<|gP (λ_ _ h_=>gQ h_ bz V (VQ oW u66 _ (h_.sh.own 4 V) (h_.sh.own 1 V))) V<|zn (oM 1 V<|.nl)<|nK k75<|sG (oM 1 V<|rM V<|.nl)<|gF [1,6,8,74] V<|Q1 V (by rw [decide_eq_true (gn (XI zc).1 (iS.QZ (UF.symm.trans zc)).2.1 (λo=>((XI zc).2 o).trans ((DQ zR Gl o).trans ((iS.QZ (UF.symm.trans zc)).2.2.1 o).symm)))];rfl)<|gS<|hK sa<|sK λ_ k78=>zn (kt 10 qu V V<|.nl)<|λa80 w80 aZ=>zL (zD aZ Hm V V V V V (gH code words ((Lk:Nat):Int) ((R:Nat):Int) _ (aZ.sh.at 11 V) (aZ.sh.at 12 V) zR)) (zg V _) ?_
    rintro a81 w81 ⟨_,⟨o81,rfl,oi,E9⟩,II⟩
    have AH:=(⟨II,aZ.sh.call E9 (by intro A hA b hb;simp only [z6,qd,or_false] at hA;first|(subst hA;exact Flat.qh hb)|(rcases hA with rfl|rfl<;>first|exact (hb:False).elim|exact Flat.qh hb|exact .inl (hb:_)))⟩:St 96 (λ_=>False) W a81 w81 _ _)
    clear II E9
    clear aZ
    refine gG AH<|zn (oM 1 V<|.nl)<|nK k78<|sK λ_ k82=>zn (kt 11 qu V V<|oM 1 V<|.nl)<|λa84 w84 oN=>zL (zD oN Hl V V V V V (YU code words ((Lk:Nat):Int) ((R:Nat):Int) o81 _ (oN.sh.at 12 V) (oN.sh.at 13 V) zR (oN.sh.deep 0 V) (vH oi).1 (vH oi).2)) (zg V _) ?_;clear AH
    rintro a85 w85 ⟨_,⟨s7,tD,rfl,zcl,zbZ,E8⟩,IH⟩
    have iA:ya s7 tD Lk R=qz (ya code words Lk R):=Y1 oi zcl zbZ
    have I9:=(⟨IH,oN.sh.call E8 (by intro A hA b hb;simp only [z6,qd,or_false] at hA;first|(subst hA;exact Flat.qh hb)|(rcases hA with rfl|rfl<;>first|exact (hb:False).elim|exact Flat.qh hb|exact .inl (hb:_)))⟩:St 96 (λ_=>False) W a85 w85 _ _)
    clear IH E8
    clear oN
    refine gG I9<|Q2 qu V λb86=>gE (λ_ _ h_=>j3 (i:=0) (vs:= [s7.v,tD.v,.int .i64 ((Lk:Nat):Int),.int .i64 ((R:Nat):Int)]) (YR:= [s7.v,tD.v,.int .i64 ((Lk:Nat):Int),.int .i64 ((R:Nat):Int)]) h_ qu V V V V V V V (zr ((h_.sh.deep 1 V)).one (zr ((h_.sh.own 2 V)).one (zr V (zr V qx)))) (y5 V) V) V<|nK k82<|sK λ_ k88=>zn (kt 0 qu V V<|.nl)<|λa89 w89 oL=>?_;clear I9
    have sd:(yC (yH s7 tD ((Lk:Nat):Int) ((R:Nat):Int))).code≠0:=λh9=>Xq (iA▸(jB.1 h9:yJ (ya s7 tD Lk R)))
    refine zL (zD oL WR V V V V V (ry s7 tD ((Lk:Nat):Int) ((R:Nat):Int) _ (oL.sh.deep 1 V) (oL.sh.own 2 V) sd)) (zg V _) ?_
    rintro a90 w90 ⟨_,⟨rfl,zht⟩,zjD⟩
    have hzq:(yC (yH s7 tD ((Lk:Nat):Int) ((R:Nat):Int))).code≠0:=sd
    have mc:St 96 (λ_=>False) W a90 w90 _ _:=⟨zjD,oL.sh.jv zht⟩
    clear zjD zht
    clear oL
    refine gG mc<|zn (oM 1 V<|kK V<|kK V<|oM 1 V<|.nl)<|YK 4 yR V V V<|nK k88<|sG (qB xU V<|qw 4 kD V V<|QW _ _ V<|oM 1 V<|Zy 6 (decide_eq_true sd) V V<|QV (decide_eq_true sd) V<|oM 1 V<|.nl)<|gF [2] V<|gR<|λa93 w93 uV=>zu (fn:=Tryz.f12) (t:=2) V uV V<|⟨?_,(uV.sh.zY [] V)⟩;clear mc
    rfl
   refine gS<|hK sa<|sK λ_ k94=>zn (kt 10 qu V V<|.nl)<|λa96 w96 sE=>zL (zD sE Hm V V V V V (gH code words ((Lk:Nat):Int) ((R:Nat):Int) _ (sE.sh.at 11 V) (sE.sh.at 12 V) zR)) (zg V _) ?_
   rintro a97 w97 ⟨_,⟨o97,rfl,zcK,E6⟩,IG⟩
   have uU:=(⟨IG,sE.sh.call E6 (by intro A hA b hb;simp only [z6,qd,or_false] at hA;first|(subst hA;exact Flat.qh hb)|(rcases hA with rfl|rfl<;>first|exact (hb:False).elim|exact Flat.qh hb|exact .inl (hb:_)))⟩:St 96 (λ_=>False) W a97 w97 _ _)
   clear IG E6
   clear sE
   refine gG uU<|zn (oM 1 V<|.nl)<|nK k94<|sK λ_ k98=>zn (kt 11 qu V V<|oM 1 V<|.nl)<|λzmb zf3 Gu=>zL (zD Gu Hl V V V V V (YU code words ((Lk:Nat):Int) ((R:Nat):Int) o97 _ (Gu.sh.at 12 V) (Gu.sh.at 13 V) zR (Gu.sh.deep 0 V) (vH zcK).1 (vH zcK).2)) (zg V _) ?_;clear uU
   rintro zma zf2 ⟨_,⟨pb,mD,rfl,zhX,zhf,S2⟩,TJ⟩
   have zcq:ya pb mD Lk R=qz (ya code words Lk R):=Y1 zcK zhX zhf
   have DO:=(⟨TJ,Gu.sh.call S2 (by intro A hA b hb;simp only [z6,qd,or_false] at hA;first|(subst hA;exact Flat.qh hb)|(rcases hA with rfl|rfl<;>first|exact (hb:False).elim|exact Flat.qh hb|exact .inl (hb:_)))⟩:St 96 (λ_=>False) W zma zf2 _ _)
   clear TJ S2
   clear Gu
   refine gG DO<|Q2 qu V λzyQ=>gE (λ_ _ h_=>j3 (i:=0) (vs:= [pb.v,mD.v,.int .i64 ((Lk:Nat):Int),.int .i64 ((R:Nat):Int)]) (YR:= [pb.v,mD.v,.int .i64 ((Lk:Nat):Int),.int .i64 ((R:Nat):Int)]) h_ qu V V V V V V V (zr ((h_.sh.deep 1 V)).one (zr ((h_.sh.own 2 V)).one (zr V (zr V qx)))) (y5 V) V) V<|nK k98<|gF [6,8,11] V<|sK λ_ zbH=>zn (kt 0 qu V V<|.nl)<|λa105 Ng J4=>?_;clear DO
   have cL:(yC (yH pb mD ((Lk:Nat):Int) ((R:Nat):Int))).code≠0:=λh9=>Xq (zcq▸(jB.1 h9:yJ (ya pb mD Lk R)))
   refine zL (zD J4 WR V V V V V (ry pb mD ((Lk:Nat):Int) ((R:Nat):Int) _ (J4.sh.deep 1 V) (J4.sh.own 2 V) cL)) (zg V _) ?_
   rintro pA my ⟨_,⟨rfl,ix⟩,la⟩
   have hzq:(yC (yH pb mD ((Lk:Nat):Int) ((R:Nat):Int))).code≠0:=cL
   have YQ:St 96 (λ_=>False) W pA my _ _:=⟨la,J4.sh.jv ix⟩
   clear la ix
   clear J4
   refine gG YQ<|zn (oM 1 V<|kK V<|kK V<|oM 1 V<|.nl)<|YK 4 yR V V V<|nK zbH<|sG (qB xU V<|qw 4 kD V V<|QW _ _ V<|oM 1 V<|Zy 6 (decide_eq_true cL) V V<|QV (decide_eq_true cL) V<|oM 1 V<|.nl)<|gR<|λa109 znF af=>zu (fn:=Tryz.f12) (t:=2) V af V<|⟨?_,(af.sh.zY [] V)⟩;clear YQ
   rfl
  refine zn (Zy 3 kN V V<|Zx kN V<|.nl)<|nK Oi<|Q1 V V<|gS<|hK sa<|sK λ_ zo5=>zn (kt 10 qu V V<|.nl)<|λMu A3 UC=>zL (zD UC Hm V V V V V (gH code words ((Lk:Nat):Int) ((R:Nat):Int) _ (UC.sh.at 11 V) (UC.sh.at 12 V) zR)) (zg V _) ?_
  rintro PZ A1 ⟨_,⟨zoh,rfl,FZ,Gh⟩,iY⟩
  have Vu:=(⟨iY,UC.sh.call Gh (by intro A hA b hb;simp only [z6,qd,or_false] at hA;first|(subst hA;exact Flat.qh hb)|(rcases hA with rfl|rfl<;>first|exact (hb:False).elim|exact Flat.qh hb|exact .inl (hb:_)))⟩:St 96 (λ_=>False) W PZ A1 _ _)
  clear iY Gh
  clear UC
  refine gG Vu<|zn (oM 1 V<|.nl)<|nK zo5<|sK λ_ uy=>zn (kt 11 qu V V<|oM 1 V<|.nl)<|λa116 zfX Gt=>zL (zD Gt Hl V V V V V (YU code words ((Lk:Nat):Int) ((R:Nat):Int) zoh _ (Gt.sh.at 12 V) (Gt.sh.at 13 V) zR (Gt.sh.deep 0 V) (vH FZ).1 (vH FZ).2)) (zg V _) ?_;clear Vu
  rintro a117 Nf ⟨_,⟨pa,mC,rfl,zhV,zhd,SY⟩,TD⟩
  have zcp:ya pa mC Lk R=qz (ya code words Lk R):=Y1 FZ zhV zhd
  have YP:=(⟨TD,Gt.sh.call SY (by intro A hA b hb;simp only [z6,qd,or_false] at hA;first|(subst hA;exact Flat.qh hb)|(rcases hA with rfl|rfl<;>first|exact (hb:False).elim|exact Flat.qh hb|exact .inl (hb:_)))⟩:St 96 (λ_=>False) W a117 Nf _ _)
  clear TD SY
  clear Gt
  refine gG YP<|Q2 qu V λzyO=>gE (λ_ _ h_=>j3 (i:=0) (vs:= [pa.v,mC.v,.int .i64 ((Lk:Nat):Int),.int .i64 ((R:Nat):Int)]) (YR:= [pa.v,mC.v,.int .i64 ((Lk:Nat):Int),.int .i64 ((R:Nat):Int)]) h_ qu V V V V V V V (zr ((h_.sh.deep 1 V)).one (zr ((h_.sh.own 2 V)).one (zr V (zr V qx)))) (y5 V) V) V<|nK uy<|gF [6,8,11] V<|sK λ_ zbE=>zn (kt 0 qu V V<|.nl)<|λzy6 zvq Le=>?_;clear YP
  have cK:(yC (yH pa mC ((Lk:Nat):Int) ((R:Nat):Int))).code≠0:=λh9=>Xq (zcp▸(jB.1 h9:yJ (ya pa mC Lk R)))
  refine zL (zD Le WR V V V V V (ry pa mC ((Lk:Nat):Int) ((R:Nat):Int) _ (Le.sh.deep 1 V) (Le.sh.own 2 V) cK)) (zg V _) ?_
  rintro PY Nd ⟨_,⟨rfl,iv⟩,iW⟩
  have hzq:(yC (yH pa mC ((Lk:Nat):Int) ((R:Nat):Int))).code≠0:=cK
  have Gs:St 96 (λ_=>False) W PY Nd _ _:=⟨iW,Le.sh.jv iv⟩
  clear iW iv
  clear Le
  refine gG Gs<|zn (oM 1 V<|kK V<|kK V<|oM 1 V<|.nl)<|YK 4 yR V V V<|nK zbE<|sG (qB xU V<|qw 4 kD V V<|QW _ _ V<|oM 1 V<|Zy 6 (decide_eq_true cK) V V<|QV (decide_eq_true cK) V<|oM 1 V<|.nl)<|gR<|λzl5 zfU aa=>zu (fn:=Tryz.f12) (t:=2) V aa V<|⟨?_,(aa.sh.zY [] V)⟩;clear Gs
  rfl
 refine zn (Zy 3 Kl V V<|Zx Kl V<|oM 1 V<|Zy 3 V V V<|Zx V V<|.nl)<|nK Oi<|Q1 V V<|gS<|hK sa<|sK λ_ zbD=>zn (kt 10 qu V V<|.nl)<|λzeP zaE DN=>zL (zD DN Hm V V V V V (gH code words ((Lk:Nat):Int) ((R:Nat):Int) _ (DN.sh.at 11 V) (DN.sh.at 12 V) zR)) (zg V _) ?_
 rintro zl3 zfS ⟨_,⟨zof,rfl,FX,SS⟩,Ty⟩
 have Pa:=(⟨Ty,DN.sh.call SS (by intro A hA b hb;simp only [z6,qd,or_false] at hA;first|(subst hA;exact Flat.qh hb)|(rcases hA with rfl|rfl<;>first|exact (hb:False).elim|exact Flat.qh hb|exact .inl (hb:_)))⟩:St 96 (λ_=>False) W zl3 zfS _ _)
 clear Ty SS
 clear DN
 refine gG Pa<|zn (oM 1 V<|.nl)<|nK zbD<|sK λ_ zbC=>zn (kt 11 qu V V<|oM 1 V<|.nl)<|λPV Nc Xk=>zL (zD Xk Hl V V V V V (YU code words ((Lk:Nat):Int) ((R:Nat):Int) zof _ (Xk.sh.at 12 V) (Xk.sh.at 13 V) zR (Xk.sh.deep 0 V) (vH FX).1 (vH FX).2)) (zg V _) ?_;clear Pa
 rintro PU Nb ⟨_,⟨o7,bY,rfl,zhT,zhb,iu⟩,iV⟩
 have zco:ya o7 bY Lk R=qz (ya code words Lk R):=Y1 FX zhT zhb
 have DM:=(⟨iV,Xk.sh.call iu (by intro A hA b hb;simp only [z6,qd,or_false] at hA;first|(subst hA;exact Flat.qh hb)|(rcases hA with rfl|rfl<;>first|exact (hb:False).elim|exact Flat.qh hb|exact .inl (hb:_)))⟩:St 96 (λ_=>False) W PU Nb _ _)
 clear iV iu
 clear Xk
 refine gG DM<|Q2 qu V λzyM=>gE (λ_ _ h_=>j3 (i:=0) (vs:= [o7.v,bY.v,.int .i64 ((Lk:Nat):Int),.int .i64 ((R:Nat):Int)]) (YR:= [o7.v,bY.v,.int .i64 ((Lk:Nat):Int),.int .i64 ((R:Nat):Int)]) h_ qu V V V V V V V (zr ((h_.sh.deep 1 V)).one (zr ((h_.sh.own 2 V)).one (zr V (zr V qx)))) (y5 V) V) V<|nK zbC<|gF [6,8,11] V<|sK λ_ zoX=>zn (kt 0 qu V V<|.nl)<|λzeO zaD UA=>?_;clear DM
 have cJ:(yC (yH o7 bY ((Lk:Nat):Int) ((R:Nat):Int))).code≠0:=λh9=>Xq (zco▸(jB.1 h9:yJ (ya o7 bY Lk R)))
 refine zL (zD UA WR V V V V V (ry o7 bY ((Lk:Nat):Int) ((R:Nat):Int) _ (UA.sh.deep 1 V) (UA.sh.own 2 V) cJ)) (zg V _) ?_
 rintro a138 zfQ ⟨_,⟨rfl,SR⟩,Tw⟩
 have hzq:(yC (yH o7 bY ((Lk:Nat):Int) ((R:Nat):Int))).code≠0:=cJ
 have dm:St 96 (λ_=>False) W a138 zfQ _ _:=⟨Tw,UA.sh.jv SR⟩
 clear Tw SR
 clear UA
 refine gG dm<|zn (oM 1 V<|kK V<|kK V<|oM 1 V<|.nl)<|YK 4 yR V V V<|nK zoX<|sG (qB xU V<|qw 4 kD V V<|QW _ _ V<|oM 1 V<|Zy 6 (decide_eq_true cJ) V V<|QV (decide_eq_true cJ) V<|oM 1 V<|.nl)<|gR<|λa141 zvo zlh=>zu (fn:=Tryz.f12) (t:=2) V zlh V<|⟨?_,(zlh.sh.zY [] V)⟩;clear dm
 rfl
theorem ft (code:Ls (Ls Ins))(words:Ls Int)(zm ze:Int)(W:World)(qY:code.At W)(yo:words.At W)(hR:pH (yH code words zm ze)):zP Tryz.prog 12 [.agg #[code.v,words.v,.int .i64 zm,.int .i64 ze]] W (λv w' =>v= .bool true/\qM W w' []):=by
 cases hv:UM (code.l.map (·.l)) words.l with
 |true=>exact tV code words zm ze W qY yo hv
 |false=>
  by_cases zR:yJ (yH code words zm ze)
  ·obtain ⟨Lk,rfl⟩:=Int.eq_ofNat_of_zero_le zR.zm.1
   obtain ⟨R,rfl⟩:=Int.eq_ofNat_of_zero_le (show 0<=ze by have:=zR.ze.1;have e:(yH code words (Lk:Int) ze).ze=ze:=rfl;omega)
   by_cases ox:yJ (qz (ya code words Lk R))
   ·exact tX code words Lk R W qY yo hv zR hR ox
   ·exact tW code words Lk R W qY yo hv zR hR ox
  ·exact tY code words zm ze W qY yo hv (λh=>zR (jB.1 h))
end Go.Proofs.YtmjkobhkkjgplaaGreatDoor
namespace Go.Proofs.YtmjkobhkkjgplaaGreatDoor
open Go Go.ChangeShapes Go.WideShapes Go.ChangeAt Go.RowKit
set_option linter.unusedSimpArgs false
set_option linter.unusedVariables false
theorem M5 {n:Int}(h:(Lit.int .i64 n).wf=true):gy n:=by
 unfold Lit.wf at h
 simp only [qI,decide_eq_true_eq] at h
 have e1:IntKind.i64.min= -9223372036854775808:=zb
 have e2:IntKind.i64.max=9223372036854775807:=zb
 rw [e1,e2] at h
 unfold gy
 omega
theorem NF {pr:PR}(h:pr.HR):pH (yH (WH pr.code) (fI pr.words) pr.zm pr.ze):=by
 obtain ⟨h1,h2,_,_⟩:=h
 refine ⟨λc hc i hi=>?_,λn hn=>?_⟩
 ·obtain ⟨l,hl,rfl⟩:=List.mem_map.1 hc
  obtain ⟨s,hs,rfl⟩:=List.mem_map.1 hl
  obtain ⟨k,hk,rfl⟩:=List.mem_iff_getElem.1 hs
  have h3:=h1 k hk
  rw [qq _ _ hk] at h3
  obtain ⟨q,hq,rfl⟩:=List.mem_iff_getElem.1 hi
  have h4:=h3 q hq
  have Vq:q<(pr.code.l[k]).l.length:=hq
  rw [qq _ _ Vq] at h4
  exact ⟨M5 h4.2.1,M5 h4.2.2.1,M5 h4.2.2.2⟩
 ·obtain ⟨k,hk,rfl⟩:=List.mem_iff_getElem.1 hn
  have hk' :k<pr.words.l.length:=hk
  have h3:=h2 k hk'
  rw [qq _ _ hk'] at h3
  exact M5 h3
theorem LF (os:Os)(args:Array Value):laidMetH Tryz.prog Rows.psoFreeRow.laid ((World.doorLaid Tryz.prog 24 os).forCall (λ_ _=>0) ⟨#[],args,[]⟩).memory:=
 laidMetH_of_parts3 (fuel:=8) (laidMet_of_run' 8 zb zb) zb zb
set_option maxRecDepth 100000 in
theorem R1 (os:Os)(started:os.Started)(H:Type)(enc:TypeId×Value->H):
  ReturnsInHanded {} Tryz.checked os 12 .any (λw args=>(Rows.psoFreeSpec.pre enc Tryz.prog Tryz.f12 [] false w args/\laidMetH Tryz.prog Rows.psoFreeRow.laid w)/\sizedMet enc Tryz.prog Tryz.f12 (OpenSpec.ofChange Rows.psoFreeSpec) false w args) (Rows.psoFreeSpec.post enc Tryz.prog Tryz.f12 false true false false):=by
 refine returnsInHanded_of_change_and (C:=Tryz.checked) (X:=λw _=>laidMetH Tryz.prog Rows.psoFreeRow.laid w) (λ_ _ _ hh h=>h.of_heap hh) own started zb Tryz.func12
  (ChangeSpec.witness_shaped (enc:=enc) (C:=Tryz.checked) (os:=os) (X:=λw _=>laidMetH Tryz.prog Rows.psoFreeRow.laid w) false (World.doorLaid Tryz.prog 24 os) #[.agg #[.slice none 0 0,.slice none 0 0,.int .i64 0,.int .i64 0]] 8 V (World.shaped_of_RefB zb zb) zb zb zb (LF os _)) ?_
 intro W base args ds gs before SF hW _ zpK _ _
 have x3:(DataW.weightsEach Tryz.prog (Tryz.f12.params.toList++Rows.psoFreeSpec.plain.varTypes Tryz.prog) (ds++gs)).all (· <=reachBytes)=true:=zpK
 have Ot:∀(j:Nat) t v,Tryz.f12.params[j]? =some t->args[j]? =some v->Value.okWide Tryz.prog W .any base t v:=SF
 have hW' :=hW
 obtain ⟨p,q,hA0,hV,rfl,OZ,MO⟩:=hW
 have hA:DataW.TrodAll enc Tryz.prog W 0 (λ_=>true) true Tryz.f12.params.toList args.toList ds p:=hA0
 rw [Tryz.params12] at hA Ot x3
 obtain ⟨v0,d0,rfl,rfl,h0⟩:=trodAll_one hA
 obtain ⟨rfl,rfl⟩:=trodVars_none hV
 clear hA0 SF
 simp only [k6] at hW'
 have Ys:∀n∈DataW.weights Tryz.prog 25 d0,n<=reachBytes:=by
  intro n hn
  have:=List.all_eq_true.1 x3 n (by simp [DataW.weightsEach,hn])
  simpa using this
 obtain ⟨fs,Rg,hpf⟩:=zf9
 obtain ⟨pr,rfl,hAt,oy⟩:=NP Rg hpf zb (Ot 0 25 v0 V V) h0 Ys
 have qU:∀x∈p,x.block<W.heap.size:=λx hx=>by simpa using hW'.lt x hx
 have zkd:=ft (WH pr.code) (fI pr.words) pr.zm pr.ze W (Eb hAt.code) (rO hAt.words) (NF oy)
 refine gJ zkd λe W' ⟨v',he,nJ,hg0⟩=>?_
 have hg:=hg0.J6.KK
 subst he
 subst nJ
 exact ⟨_,V,_,_,_,[],p,[],hW',trodAll_mk1 (shut_bool Tryz.underlying4 true),trodAll_mk1 (Below.trod laidOut zb (of_decide_eq_true zb) h0 hg qU),V,hg.frame _,λh=>by cases h⟩
theorem cr :Rows.PsoFreeSaid:=
 OpenClaim.holds_of_wide 12 Tryz.f12 V V V V V V V ⟨V,V,V,V,V⟩ V V V V V zb Tryz.func12 zb
  (of_decide_eq_true zb) (by unfold Func.isWrapper;first|(rw [if_pos (by decide+kernel)];kernel_rfl)|(rw [if_neg (by decide+kernel)];exact ⟨V,V⟩))
  (λos started H enc _=>R1 os started H enc)
theorem psoFree_holds :Rows.PsoFreeCardSaid:=
 Claim7.holds_tied_plain_at .later [] [.data,.data,.data] true (true, "7156a00dd565ccc5b243c7c66c0e1b87025c3a7a962659fa9eea236c69567f4f") false
  cr (λ_ h=>by cases h) zb (λ_ h=>by cases h) psoFree_row_tie V ⟨V,V⟩ zb V
  (λf fn hf hfn=>by
   obtain rfl:f=12:=qA ((show Tryz.prog.funcNamed Rows.psoFreeRow.func=some 12 from zb).symm.trans hf)|>.symm
   obtain rfl:fn=Tryz.f12:=(qA (Tryz.func12.symm.trans hfn)).symm
   exact ⟨zb,λj t ht=>by
    rw [Tryz.params12] at ht
    have h3:t=25:=by
     rcases j with _|j
     ·simpa using ht.symm
     ·simp at ht
    subst h3
    exact (show Tryz.prog.wantsStandIn 25=false from zb)⟩)
  zb
end Go.Proofs.YtmjkobhkkjgplaaGreatDoor
